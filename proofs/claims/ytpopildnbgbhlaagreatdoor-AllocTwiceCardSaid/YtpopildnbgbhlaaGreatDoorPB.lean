/- P13f, P13k, P13w0, P13w, P13v. -/
import Derived.Test.YtpopildnbgbhlaaGreatDoorPA
import Derived.Test.YtpopildnbgbhlaaGreatDoorPU
import Derived.KernelRfl
import Derived.Test.YtpopildnbgbhlaaGreatDoorFI
import Derived.Test.YtpopildnbgbhlaaGreatDoorFE
namespace Go.Proofs.Zz
open Go Go.Sy
set_option linter.unusedSimpArgs false
set_option linter.unusedVariables false
set_option maxRecDepth 100000
def Few (s : ST) : Prop := s.2.2.2.2.1.length ≤ 40 ∧ s.2.2.2.2.2.length ≤ 40 ∧ s.2.2.2.1.length ≤ 6
instance (s : ST) : Decidable (Few s) := by unfold Few; infer_instance
theorem Few.sm {s : ST} (h : Few s) : Sm s := ⟨by have := h.2.2; omega, by have := h.1; omega, by have := h.2.1; omega⟩
theorem f12_eq (s : ST) :
  f12 s.1.1.1 s.1.1.2 s.1.2.1.1 s.1.2.1.2 s.1.2.2.1 s.1.2.2.2.1 s.1.2.2.2.2.1 s.1.2.2.2.2.2 s.2.1.1 s.2.1.2.1 s.2.1.2.2.1 s.2.1.2.2.2 s.2.2.1 s.2.2.2.1 s.2.2.2.2.1 s.2.2.2.2.2 = some (decide (Few s), ()) := by
 unfold f12 f29 Few
 by_cases h1 : s.2.2.2.2.1.length ≤ 40
 ·by_cases h2 : s.2.2.2.2.2.length ≤ 40
  ·by_cases h3 : s.2.2.2.1.length ≤ 6
   ·have h1' : ((s.2.2.2.2.1.length : Nat) : Int) ≤ 40 := by omega
    have h2' : ((s.2.2.2.2.2.length : Nat) : Int) ≤ 40 := by omega
    have h3' : ((s.2.2.2.1.length : Nat) : Int) ≤ 6 := by omega
    simp [h1, h2, h3, h1', h2', h3']
   ·have h1' : ((s.2.2.2.2.1.length : Nat) : Int) ≤ 40 := by omega
    have h2' : ((s.2.2.2.2.2.length : Nat) : Int) ≤ 40 := by omega
    have h3' : ¬ ((s.2.2.2.1.length : Nat) : Int) ≤ 6 := by omega
    simp [h1, h2, h3, h1', h2', h3']
  ·have h1' : ((s.2.2.2.2.1.length : Nat) : Int) ≤ 40 := by omega
   have h2' : ¬ ((s.2.2.2.2.2.length : Nat) : Int) ≤ 40 := by omega
   simp [h1, h2, h1', h2']
 ·have h1' : ¬ ((s.2.2.2.2.1.length : Nat) : Int) ≤ 40 := by omega
  simp [h1, h1']
theorem toN (n : Nat) : Int.toNat ((n : Nat) : Int) = n := rfl
theorem rdB2 {l : List (Int × Int)} {j : Nat} (h : j < l.length) : rd (.pair (.int .i64) (.int .i64)) l j = l[j] := rd_lt h
theorem useU_step {n : Nat} (at' : Int) (U : Nat) (l : List (Int × Int)) {j : Nat} (h : j < l.length) : useU n at' U (l.take (j + 1)) = (if l[j].1 = at' then takeU n (useU n at' U (l.take j)) l[j].2 else useU n at' U (l.take j)) := by
 unfold useU
 rw [List.take_succ_eq_append_getElem h, List.foldl_append]
 rfl
theorem f144_ok {n U : Nat} (hn : n ≤ 8) (hU : U < 2 ^ n) : f144 (n : Int) (U : Int) = some (true, ()) := by
 unfold f144
 rw [decide_eq_true (show (0 : Int) ≤ (n : Int) by omega), decide_eq_true (show (n : Int) ≤ 8 by omega), decide_eq_true (show (0 : Int) ≤ (U : Int) by omega), decide_eq_false (show ¬ (n : Int) < 0 by omega)]
 simp only [cond_true, Bool.not_false, toN, Nat.min_eq_left (show n ≤ 64 by omega), fdiv_pow, Nat.div_eq_of_lt hU]
 rfl
theorem f121_ok {n : Nat} (hn : n ≤ 8) : f121 (n : Int) = some (((n : Int), ((0 : Nat) : Int)), true, ()) := by
 unfold f121
 have := f144_ok (n := n) (U := 0) hn (Nat.two_pow_pos _)
 rw [show ((0 : Nat) : Int) = 0 from rfl] at this ⊢
 rw [this]; rfl
theorem f171_ok {n U : Nat} (hn : n ≤ 8) (hU : U < 2 ^ n) (i : Int) : f171 (n : Int) (U : Int) i = some (decide (0 ≤ i) && decide (i < (n : Int)), ()) := by
 unfold f171
 rw [f144_ok hn hU]
 simp only [Option.bind_some, cond_true]
 cases decide (0 ≤ i) <;> rfl
theorem f172_ok {n U : Nat} (hn : n ≤ 8) (hU : U < 2 ^ n) {i : Nat} (hi : i < n) : f172 (n : Int) (U : Int) (i : Int) = some (U.testBit i, ()) := by
 have hl := u_lt hn hU
 unfold f172
 rw [f171_ok hn hU, decide_eq_true (show (0 : Int) ≤ (i : Int) by omega), decide_eq_true (show (i : Int) < (n : Int) by omega)]
 simp only [Option.bind_some, Bool.and_self, cond_true]
 rw [decide_eq_false (show ¬ (i : Int) < 0 by omega)]
 simp only [Bool.not_false, cond_true, toN, Nat.min_eq_left (show i ≤ 64 by omega), fdiv_pow]
 have h1 : U / 2 ^ i < 2 ^ 63 := Nat.lt_of_le_of_lt (Nat.div_le_self _ _) (by omega)
 have := b_and (a := U / 2 ^ i) (b := 1) h1 (by decide)
 rw [show (((1 : Nat) : Int)) = 1 from rfl] at this
 rw [this, Nat.and_one_is_mod, Nat.testBit_eq_decide_div_mod_eq]
 congr 2
 rw [decide_eq_decide]
 omega
theorem f123_ok {n U : Nat} (hn : n ≤ 8) (hU : U < 2 ^ n) (i : Int) : ∃ b, f123 (n : Int) (U : Int) i = some (((n : Int), ((takeU n U i : Nat) : Int)), b, ()) := by
 have hl := u_lt hn hU
 unfold f123 f146
 rw [f171_ok hn hU]
 simp only [Option.bind_some]
 by_cases h0 : 0 ≤ i ∧ i < (n : Int)
 ·rw [decide_eq_true h0.1, decide_eq_true h0.2]
  simp only [Bool.and_self, Bool.not_true, cond_false]
  have e : i = ((i.toNat : Nat) : Int) := by omega
  have hi : i.toNat < n := by omega
  have h9 := f172_ok hn hU hi
  rw [← e] at h9
  rw [h9]
  simp only [Option.bind_some]
  cases hb : U.testBit i.toNat with
  | true =>
   have : takeU n U i = U := by unfold takeU; rw [if_neg (by rw [hb]; simp)]
   rw [this]
   exact ⟨_, rfl⟩
  | false =>
   have : takeU n U i = U ^^^ 2 ^ i.toNat := by unfold takeU; rw [if_pos ⟨h0.1, h0.2, hb⟩]
   rw [this, decide_eq_false (show ¬ i < 0 by omega)]
   have hp : 2 ^ i.toNat ≤ 2 ^ 8 := Nat.pow_le_pow_right (by decide) (by omega)
   have hx := b_xor (a := U) (b := 2 ^ i.toNat) (by omega) (by omega)
   have e2 : IntKind.wrap .i64 (1 * ((2 : Int) ^ ((min (Int.toNat i) 64) : Nat))) = ((2 ^ i.toNat : Nat) : Int) := by
    rw [Nat.min_eq_left (show i.toNat ≤ 64 by omega), Int.one_mul, show ((2 : Int) ^ i.toNat) = ((2 ^ i.toNat : Nat) : Int) by simp]
    have hq : 2 ^ i.toNat ≤ 256 := hp
    generalize 2 ^ i.toNat = q at hq ⊢
    exact w64 (by omega) (by omega)
   simp only [e2, hx]
   exact ⟨_, rfl⟩
 ·have : (decide (0 ≤ i) && decide (i < (n : Int))) = false := by
   rw [Bool.and_eq_false_iff, decide_eq_false_iff_not, decide_eq_false_iff_not]
   omega
  rw [this]
  have : takeU n U i = U := by unfold takeU; rw [if_neg (by omega)]
  rw [this]
  exact ⟨_, rfl⟩
theorem free_bits : ∀ n : Fin 9, ∀ U : Fin 256, U.val < 2 ^ n.val → bitop .andNot .u64 (IntKind.wrap .u64 ((IntKind.wrap .u64 (1 * ((2 : Int) ^ ((min (Int.toNat (n.val : Int)) 64) : Nat)))) - 1)) (IntKind.wrap .u64 (U.val : Int)) = ((2 ^ n.val - 1 - U.val : Nat) : Int) := by decide +kernel
theorem f99_ok {n U : Nat} (hn : n ≤ 8) (hU : U < 2 ^ n) : f99 (n : Int) (U : Int) = some (firstI n U, ()) := by
 have hl := u_lt hn hU
 have e1 := free_bits ⟨n, by omega⟩ ⟨U, hl⟩ hU
 have e2 := first_bits ⟨n, by omega⟩ ⟨U, hl⟩ hU
 simp only at e1 e2
 unfold f99
 rw [f144_ok hn hU]
 simp only [Option.bind_some, Bool.not_true, cond_false]
 rw [decide_eq_false (show ¬ (n : Int) < 0 by omega)]
 simp only [Bool.not_false, cond_true, e1]
 by_cases h0 : 0 < 2 ^ n - 1 - U
 ·rw [show firstI n U = ((Lib.ctz 64 (2 ^ n - 1 - U) : Nat) : Int) from if_pos h0]
  obtain ⟨h1, h2⟩ := e2 h0
  have hlt : 2 ^ n - 1 - U < 256 := by
   have : 2 ^ n ≤ 2 ^ 8 := Nat.pow_le_pow_right (by decide) hn
   omega
  have hf : fTz (((2 ^ n - 1 - U : Nat) : Int)) = some (((Lib.ctz 64 (2 ^ n - 1 - U) : Nat) : Int), ()) := by
   unfold fTz tzI
   rw [decide_eq_true (by omega), decide_eq_true (by omega), toN]; rfl
  have hs : u99_143_2_0 (((), ((2 ^ n - 1 - U : Nat) : Int), ()), (((n : Int), (U : Int), ()), (0, ()), ((n : Int), (U : Int), ()), ((), (), (), (), (), (), (), (), ()), ()), ()) =
    some (.ret ((), (((n : Int), (U : Int), ()), (((Lib.ctz 64 (2 ^ n - 1 - U) : Nat) : Int), ()), ((n : Int), (U : Int), ()), ((), (), (), (), (), (), (), (), ()), ()), ())) := by
   simp only [u99_143_2_0, t99_143_2_0]
   rw [decide_eq_true (show (0 : Int) < ((2 ^ n - 1 - U : Nat) : Int) by omega), hf]
   rfl
  have hit : iter big u99_143_2_0 (((), ((2 ^ n - 1 - U : Nat) : Int), ()), (((n : Int), (U : Int), ()), (0, ()), ((n : Int), (U : Int), ()), ((), (), (), (), (), (), (), (), ()), ()), ()) = _ :=
   it_mono (k := 1) (by unfold big; omega) (it_ret (n := 0) hs)
  rw [hit]
  rfl
 ·have hz : 2 ^ n - 1 - U = 0 := by omega
  rw [show firstI n U = -1 from if_neg h0, hz]
  have hs : u99_143_2_0 (((), ((0 : Nat) : Int), ()), (((n : Int), (U : Int), ()), (0, ()), ((n : Int), (U : Int), ()), ((), (), (), (), (), (), (), (), ()), ()), ()) =
    some (.out ((), (((n : Int), (U : Int), ()), (0, ()), ((n : Int), (U : Int), ()), ((), (), (), (), (), (), (), (), ()), ()), ())) := by
   simp only [u99_143_2_0, t99_143_2_0]
   rw [decide_eq_false (show ¬ (0 : Int) < ((0 : Nat) : Int) by omega)]
   rfl
  have hit : iter big u99_143_2_0 (((), ((0 : Nat) : Int), ()), (((n : Int), (U : Int), ()), (0, ()), ((n : Int), (U : Int), ()), ((), (), (), (), (), (), (), (), ()), ()), ()) = _ :=
   it_mono (k := 1) (by unfold big; omega) (it_out (n := 0) hs)
  rw [hit]
  rfl
theorem f100_ok {D : DT} (F : FitP D) (l : List LT) (h : List HT) (hl : l.length ≤ 40) (hh : h.length ≤ 40) (at' : Int) :
  f100 D.1.1 D.1.2 D.2.1.1 D.2.1.2 D.2.2.1 D.2.2.2.1 D.2.2.2.2.1 D.2.2.2.2.2 l h at' = some (((((blks D).toNat : Nat) : Int), ((useU (blks D).toNat at' 0 (l.map kL ++ h.map kH) : Nat) : Int)), ()) := by
 have hb0 : 0 ≤ blks D := Int.ediv_nonneg F.g1 (by have := F.h1; omega)
 have hb8 := F.blk
 have hn : (blks D).toNat ≤ 8 := by omega
 unfold f100
 rw [f50_eq, if_pos F, show blks D = (((blks D).toNat : Nat) : Int) by omega]
 simp only [Option.bind_some, f121_ok hn]
 rw [show ((((blks D).toNat : Nat) : Int)).toNat = (blks D).toNat from rfl]
 generalize (blks D).toNat = n at hn ⊢
 have cap : ∀ m : Nat, m ≤ 100 → (decide ((m + 1) * 16 ≤ 140737488355328) && decide (m + 1 ≤ 9223372036854775807)) = true := fun m hm => by
  rw [decide_eq_true (by omega), decide_eq_true (by omega)]; rfl
 have z0 : (0 : Int) = ((0 : Nat) : Int) := rfl
 have e1 : iter big u100_4 ((h, at', (), (), l, ((l.length : Nat) : Int), 0, ()), ((0, 0, ()), ((n : Int), (((0 : Nat) : Int)), ()), ()), [], ()) = some (.inl ((h, at', (), (), ()), ((0, 0, ()), ((n : Int), (((0 : Nat) : Int)), ()), ()), l.map kL, ())) := by
  have := it_all (u := u100_4) (fun j => ((h, at', (), (), l, ((l.length : Nat) : Int), ((j : Nat) : Int), ()), ((0, 0, ()), ((n : Int), (((0 : Nat) : Int)), ()), ()), (l.take j).map kL, ())) (n := l.length)
   (y := ((h, at', (), (), ()), ((0, 0, ()), ((n : Int), (((0 : Nat) : Int)), ()), ()), l.map kL, ()))
   (fun j hj => by
    have hc := cap ((l.take j).map kL).length (by simp; omega)
    simp only [u100_4, t100_4, ltn hj, ge0, cond_true, Bool.and_self, Int.toNat_natCast, rdL hj, f57, Option.bind_some, hc, nx hj (show l.length ≤ 9223372036854775807 by omega)]
    rw [List.take_succ_eq_append_getElem hj, List.map_append]
    rfl)
   (by simp only [u100_4, t100_4, nlt, cond_false, List.take_length])
   0 big (Nat.zero_le _) (by unfold big; omega)
  exact this
 have e2 : iter big u100_9 ((at', (), (), h, ((h.length : Nat) : Int), 0, ()), ((0, 0, ()), ((n : Int), (((0 : Nat) : Int)), ()), ()), l.map kL, ()) = some (.inl ((at', (), (), ()), ((0, 0, ()), ((n : Int), (((0 : Nat) : Int)), ()), ()), l.map kL ++ h.map kH, ())) := by
  have := it_all (u := u100_9) (fun j => ((at', (), (), h, ((h.length : Nat) : Int), ((j : Nat) : Int), ()), ((0, 0, ()), ((n : Int), (((0 : Nat) : Int)), ()), ()), l.map kL ++ (h.take j).map kH, ())) (n := h.length)
   (y := ((at', (), (), ()), ((0, 0, ()), ((n : Int), (((0 : Nat) : Int)), ()), ()), l.map kL ++ h.map kH, ()))
   (fun j hj => by
    have hc := cap (l.map kL ++ (h.take j).map kH).length (by simp; omega)
    simp only [u100_9, t100_9, ltn hj, ge0, cond_true, Bool.and_self, Int.toNat_natCast, rdH hj, f129, Option.bind_some, hc, nx hj (show h.length ≤ 9223372036854775807 by omega)]
    rw [List.take_succ_eq_append_getElem hj, List.map_append, ← List.append_assoc]
    rfl)
   (by simp only [u100_9, t100_9, nlt, cond_false, List.take_length])
   0 big (Nat.zero_le _) (by unfold big; omega)
  simp only [List.take_zero, List.map_nil, List.append_nil] at this
  exact this
 have e3 : ∀ m : List (Int × Int), m.length ≤ 100 → iter big u100_14 ((at', (), (), ((m.length : Nat) : Int), 0, ()), ((0, 0, ()), ((n : Int), (((0 : Nat) : Int)), ()), ()), m, ()) =
   some (.inl (((), (), ()), ((0, 0, ()), ((n : Int), ((useU n at' 0 m : Nat) : Int), ()), ()), ())) := by
  intro m hm
  have := it_all (u := u100_14) (fun j => ((at', (), (), ((m.length : Nat) : Int), ((j : Nat) : Int), ()), ((0, 0, ()), ((n : Int), ((useU n at' 0 (m.take j) : Nat) : Int), ()), ()), m, ())) (n := m.length)
   (y := (((), (), ()), ((0, 0, ()), ((n : Int), ((useU n at' 0 m : Nat) : Int), ()), ()), ()))
   (fun j hj => by
    obtain ⟨b, hb⟩ := f123_ok hn (useU_lt at' (m.take j) (Nat.two_pow_pos n)) m[j].2
    simp only [u100_14, t100_14, ltn hj, ge0, cond_true, Bool.and_self, Int.toNat_natCast, rdB2 hj, decide_eq_true hj, nx hj (show m.length ≤ 9223372036854775807 by omega), hb, Option.bind_some]
    rw [useU_step at' 0 m hj]
    by_cases he : m[j].1 = at'
    ·rw [if_pos he, decide_eq_true he]; rfl
    ·rw [if_neg he, decide_eq_false he]; rfl)
   (by simp only [u100_14, t100_14, nlt, cond_false, List.take_length])
   0 big (Nat.zero_le _) (by unfold big; omega)
  exact this
 rw [e1]
 simp only [Option.bind_some]
 rw [e2]
 simp only [Option.bind_some]
 rw [e3 _ (by simp; omega)]
 rfl
abbrev TT := Int × Int
theorem tm_ord (x y : TT) : ltOf ordI x y = tmLt x y := by rw [ord_lt]; rfl
def sortT (l : List TT) : List TT := l.mergeSort fun x y => !tmLt y x
theorem tm_le {x y : TT} : (!tmLt y x) = true ↔ (x.2 < y.2 ∨ (x.2 = y.2 ∧ x.1 ≤ y.1)) := by
 unfold tmLt
 simp only [Bool.not_eq_true', decide_eq_false_iff_not]
 omega
theorem sortT_pw (l : List TT) : (sortT l).Pairwise fun x y => (!tmLt y x) = true := by
 refine List.pairwise_mergeSort (fun a b c h1 h2 => ?_) (fun a b => ?_) l
 ·rw [tm_le] at *; omega
 ·rw [Bool.or_eq_true, tm_le, tm_le]; omega
theorem sortT_perm (l : List TT) : (sortT l).Perm l := List.mergeSort_perm _ _
theorem pw_unique {l m : List TT} (hl : l.Pairwise fun x y => (!tmLt y x) = true) (hm : m.Pairwise fun x y => (!tmLt y x) = true) (hp : l.Perm m) : l = m := by
 refine List.Perm.eq_of_pairwise (le := fun x y => (!tmLt y x) = true) (fun a b _ _ h1 h2 => ?_) hl hm hp
 rw [tm_le] at h1 h2
 obtain ⟨a1, a2⟩ := a
 obtain ⟨b1, b2⟩ := b
 simp only [Prod.mk.injEq] at *
 omega
theorem sortT_eq {l m : List TT} (h : l.Perm m) : sortT l = sortT m :=
 pw_unique (sortT_pw l) (sortT_pw m) ((sortT_perm l).trans (h.trans (sortT_perm m).symm))
theorem sortT_of {l m : List TT} (hm : m.Pairwise fun x y => tmLt x y = true) (h : l.Perm m) : sortT l = m := by
 refine pw_unique (sortT_pw l) (hm.imp fun {x y} hxy => ?_) ((sortT_perm l).trans h)
 rw [tm_le]
 unfold tmLt at hxy
 simp only [decide_eq_true_eq] at hxy
 omega
def sl (m : Int) (l : List TT) : List TT := l.filter fun x => decide (x.2 % 8 = m)
theorem sl_snoc (m : Int) (l : List TT) (x : TT) : sl m (l ++ [x]) = if x.2 % 8 = m then sl m l ++ [x] else sl m l := by
 unfold sl
 rw [List.filter_append]
 by_cases h : x.2 % 8 = m
 ·rw [if_pos h, List.filter_cons_of_pos (by exact decide_eq_true h), List.filter_nil]
 ·rw [if_neg h, List.filter_cons_of_neg (by rw [decide_eq_false h]; simp), List.filter_nil, List.append_nil]
theorem sl_len (m : Int) (l : List TT) : (sl m l).length ≤ l.length := List.length_filter_le _ _
abbrev slots (f : Int → List TT) : List TT := f 0 ++ f 1 ++ f 2 ++ f 3 ++ f 4 ++ f 5 ++ f 6 ++ f 7
theorem slots_perm (l : List TT) (p : TT → Bool) : (slots fun m => (sl m l).filter p).Perm (l.filter p) := by
 rw [List.perm_iff_count]
 intro x
 unfold slots sl
 simp only [List.count_append]
 have hc : ∀ m : Int, List.count x ((l.filter fun x => decide (x.2 % 8 = m)).filter p) = if x.2 % 8 = m then List.count x (l.filter p) else 0 := by
  intro m
  rw [List.filter_filter]
  by_cases h : x.2 % 8 = m
  ·rw [if_pos h]
   have e : (l.filter fun a => p a && decide (a.2 % 8 = m)) = (l.filter p).filter fun a => decide (a.2 % 8 = m) := by
    rw [List.filter_filter]
    exact List.filter_congr fun y _ => Bool.and_comm _ _
   rw [e, List.count_filter (by exact decide_eq_true h)]
  ·rw [if_neg h, List.count_eq_zero]
   intro hm
   have := (List.mem_filter.1 hm).2
   rw [decide_eq_false h] at this
   simp at this
 simp only [hc]
 have h8 : x.2 % 8 = 0 ∨ x.2 % 8 = 1 ∨ x.2 % 8 = 2 ∨ x.2 % 8 = 3 ∨ x.2 % 8 = 4 ∨ x.2 % 8 = 5 ∨ x.2 % 8 = 6 ∨ x.2 % 8 = 7 := by omega
 rcases h8 with h | h | h | h | h | h | h | h <;> simp [h]
theorem slots_perm0 (l : List TT) : (slots fun m => sl m l).Perm l := by
 have e : ∀ m : List TT, m.filter (fun _ => true) = m := fun m => List.filter_eq_self.2 (fun _ _ => rfl)
 have := slots_perm l (fun _ => true)
 simp only [e] at this
 exact this
theorem f135_eq {v : Int} (h0 : 0 ≤ v) (h1 : v ≤ 1073741824) : f135 v = some (v % 8, ()) := by
 unfold f135
 have e : v = ((v.toNat : Nat) : Int) := by omega
 have := b_and (a := v.toNat) (b := 7) (by omega) (by omega)
 rw [← e] at this
 rw [show (7 : Int) = ((7 : Nat) : Int) from rfl, this, show (7 : Nat) = 2 ^ 3 - 1 from rfl, Nat.and_two_pow_sub_one_eq_mod]
 congr 2
 omega
theorem fCT (l : List TT) (hl : l.length ≤ 1000) : fCloneTimer l = some (l, ()) := by
 unfold fCloneTimer fClone
 rw [Nat.ble_eq_true_of_le (show l.length * 16 ≤ 140737488355328 by omega)]; rfl
theorem f106_eq (now : Int) (l : List TT) (hl : l.length ≤ 1000) : f106 now l = some ((now, l), ()) := by unfold f106; rw [fCT l hl]; rfl
theorem fSortT_eq (l : List TT) (hl : l.length ≤ 1000) : fSortT l = some (sortT l) := by
 unfold fSortT fSortF sortT
 rw [ltN_true (by omega)]
 simp only [cond_true, Option.some.injEq]
 congr 1
 funext x y
 rw [tm_ord]
theorem f132_eq (a b c d : Int) : f132 a b c d = some (ordI (a, b) (c, d), ()) := by
 unfold f132
 rw [f149_eq, f149_eq]
 simp only [Option.bind_some, f148_eq]
 rfl
theorem f136_eq (a b : Int) : f136 a b = some (true, ()) := rfl
theorem it_part {α β γ : Type} {u : α → Option (R3 α β γ)} (l : List TT) (p : TT → Bool) (st : Nat → List TT → List TT → α) (fin : List TT → List TT → β)
  (hs : ∀ j (hj : j < l.length) o r, o.length ≤ 1000 → r.length ≤ 1000 → u (st j o r) = cond (p l[j]) (some (.next (st (j + 1) (o ++ [l[j]]) r))) (some (.next (st (j + 1) o (r ++ [l[j]])))))
  (he : ∀ o r, u (st l.length o r) = some (.out (fin o r))) (hl : l.length ≤ 200) {o r : List TT} (ho : o.length ≤ 700) (hr : r.length ≤ 700) :
  iter big u (st 0 o r) = some (.inl (fin (o ++ l.filter p) (r ++ l.filter fun x => !p x))) := by
 have go : ∀ (d j : Nat) (o r : List TT), j + d = l.length → o.length ≤ 700 + j → r.length ≤ 700 + j → iter (d + 1) u (st j o r) = some (.inl (fin (o ++ (l.drop j).filter p) (r ++ (l.drop j).filter fun x => !p x))) := by
  intro d
  induction d with
  | zero =>
   intro j o r hj _ _
   have e : j = l.length := by omega
   subst e
   rw [it_out (he o r), List.drop_length]
   simp
  | succ d ih =>
   intro j o r hj ho hr
   have hlt : j < l.length := by omega
   have h1 := hs j hlt o r (by omega) (by omega)
   rw [List.drop_eq_getElem_cons hlt]
   cases hp : p l[j] with
   | true =>
    rw [hp] at h1
    rw [it_next h1, ih (j + 1) _ r (by omega) (by simp; omega) (by omega), List.filter_cons_of_pos hp, List.filter_cons_of_neg (by rw [hp]; simp)]
    simp
   | false =>
    rw [hp] at h1
    rw [it_next h1, ih (j + 1) o _ (by omega) (by omega) (by simp; omega), List.filter_cons_of_neg (by rw [hp]; simp), List.filter_cons_of_pos (by rw [hp]; rfl)]
    simp
 have := go l.length 0 o r (by omega) (by omega) (by omega)
 rw [List.drop_zero] at this
 exact it_mono (by unfold big; omega) this
structure WhP (now : Int) (T : List TT) : Prop where
 now0 : 0 ≤ now
 now1 : now ≤ 1073741824
 each : ∀ x ∈ T, now < x.2 ∧ x.2 ≤ 1073741824 ∧ 0 ≤ x.1
 srt : T.Pairwise fun x y => tmLt x y = true
 ids : T.Pairwise fun x y => x.1 ≠ y.1
 len : T.length ≤ 64
set_option maxRecDepth 10000
set_option maxHeartbeats 1000000
theorem cap16 {n : Nat} (h : n ≤ 1000) : (decide ((n + 1) * 16 ≤ 140737488355328) && decide (n + 1 ≤ 9223372036854775807)) = true := by
 rw [decide_eq_true (by omega), decide_eq_true (by omega)]; rfl
theorem eta2 (x : TT) : (x.1, x.2) = x := rfl
section
variable (v3 : Int) (v4 : (List (Int × Int))) (v5 v6 : Int) (v7 : (List (Int × Int))) (v8 : Int) (v9 v10 v11 v12 v13 v14 v15 v16 : (List (Int × Int))) (v17 v18 : Int) (v19 : (List (Int × Int))) (v20 : Int) (v23 v24 v25 v26 v27 v28 v29 v30 : (List (Int × Int))) (o r : List TT)
theorem w68_111_7_0 (hl : v9.length ≤ 200) (ho : o.length ≤ 700) (hr : r.length ≤ 700) :
  iter big u68_111_7_0 (((), (), (), (), (), (), ((v9.length : Nat) : Int), 0, ()), ((v3, v4, ()), (v5, ()), (v6, (), ()), v7, (v8, (), (), (), (), (), (), (), (), ()), v9, v10, v11, v12, v13, v14, v15, v16, (v17, v18, ()), v19, (v20, (), ()), ()), o, r, v23, ()) = some (.inl (((), (), (), (), (), ()), ((v3, v4, ()), (v5, ()), (v6, (), ()), v7, (v8, (), (), (), (), (), (), (), (), ()), v9, v10, v11, v12, v13, v14, v15, v16, (v17, v18, ()), v19, (v20, (), ()), ()), (o ++ v9.filter (fun _ => true)), (r ++ v9.filter (fun x => !(fun _ => true) x)), v23, ())) :=
 it_part (u := u68_111_7_0) v9 (fun _ => true) (fun j o r => (((), (), (), (), (), (), ((v9.length : Nat) : Int), ((j : Nat) : Int), ()), ((v3, v4, ()), (v5, ()), (v6, (), ()), v7, (v8, (), (), (), (), (), (), (), (), ()), v9, v10, v11, v12, v13, v14, v15, v16, (v17, v18, ()), v19, (v20, (), ()), ()), o, r, v23, ())) (fun o r => (((), (), (), (), (), ()), ((v3, v4, ()), (v5, ()), (v6, (), ()), v7, (v8, (), (), (), (), (), (), (), (), ()), v9, v10, v11, v12, v13, v14, v15, v16, (v17, v18, ()), v19, (v20, (), ()), ()), o, r, v23, ()))
  (fun j hj o r ho hr => by
   simp only [u68_111_7_0, t68_111_7_0, ltn hj, ge0, cond_true, Bool.and_self, Int.toNat_natCast, rdB2 hj, decide_eq_true hj, cap16 ho, cap16 hr, eta2, f136_eq, Option.bind_some, nx hj (show v9.length ≤ 9223372036854775807 by omega)])
  (fun o r => by simp only [u68_111_7_0, t68_111_7_0, nlt, cond_false]) hl ho hr
theorem w68_111_7_1 (hl : v10.length ≤ 200) (ho : o.length ≤ 700) (hr : r.length ≤ 700) :
  iter big u68_111_7_1 (((), (), (), (), (), (), ((v10.length : Nat) : Int), 0, ()), ((v3, v4, ()), (v5, ()), (v6, (), ()), v7, (v8, (), (), (), (), (), (), (), (), ()), v9, v10, v11, v12, v13, v14, v15, v16, (v17, v18, ()), v19, (v20, (), ()), ()), o, r, v23, v24, ()) = some (.inl (((), (), (), (), (), ()), ((v3, v4, ()), (v5, ()), (v6, (), ()), v7, (v8, (), (), (), (), (), (), (), (), ()), v9, v10, v11, v12, v13, v14, v15, v16, (v17, v18, ()), v19, (v20, (), ()), ()), (o ++ v10.filter (fun _ => true)), (r ++ v10.filter (fun x => !(fun _ => true) x)), v23, v24, ())) :=
 it_part (u := u68_111_7_1) v10 (fun _ => true) (fun j o r => (((), (), (), (), (), (), ((v10.length : Nat) : Int), ((j : Nat) : Int), ()), ((v3, v4, ()), (v5, ()), (v6, (), ()), v7, (v8, (), (), (), (), (), (), (), (), ()), v9, v10, v11, v12, v13, v14, v15, v16, (v17, v18, ()), v19, (v20, (), ()), ()), o, r, v23, v24, ())) (fun o r => (((), (), (), (), (), ()), ((v3, v4, ()), (v5, ()), (v6, (), ()), v7, (v8, (), (), (), (), (), (), (), (), ()), v9, v10, v11, v12, v13, v14, v15, v16, (v17, v18, ()), v19, (v20, (), ()), ()), o, r, v23, v24, ()))
  (fun j hj o r ho hr => by
   simp only [u68_111_7_1, t68_111_7_1, ltn hj, ge0, cond_true, Bool.and_self, Int.toNat_natCast, rdB2 hj, decide_eq_true hj, cap16 ho, cap16 hr, eta2, f136_eq, Option.bind_some, nx hj (show v10.length ≤ 9223372036854775807 by omega)])
  (fun o r => by simp only [u68_111_7_1, t68_111_7_1, nlt, cond_false]) hl ho hr
theorem w68_111_7_2 (hl : v11.length ≤ 200) (ho : o.length ≤ 700) (hr : r.length ≤ 700) :
  iter big u68_111_7_2 (((), (), (), (), (), (), ((v11.length : Nat) : Int), 0, ()), ((v3, v4, ()), (v5, ()), (v6, (), ()), v7, (v8, (), (), (), (), (), (), (), (), ()), v9, v10, v11, v12, v13, v14, v15, v16, (v17, v18, ()), v19, (v20, (), ()), ()), o, r, v23, v24, v25, ()) = some (.inl (((), (), (), (), (), ()), ((v3, v4, ()), (v5, ()), (v6, (), ()), v7, (v8, (), (), (), (), (), (), (), (), ()), v9, v10, v11, v12, v13, v14, v15, v16, (v17, v18, ()), v19, (v20, (), ()), ()), (o ++ v11.filter (fun _ => true)), (r ++ v11.filter (fun x => !(fun _ => true) x)), v23, v24, v25, ())) :=
 it_part (u := u68_111_7_2) v11 (fun _ => true) (fun j o r => (((), (), (), (), (), (), ((v11.length : Nat) : Int), ((j : Nat) : Int), ()), ((v3, v4, ()), (v5, ()), (v6, (), ()), v7, (v8, (), (), (), (), (), (), (), (), ()), v9, v10, v11, v12, v13, v14, v15, v16, (v17, v18, ()), v19, (v20, (), ()), ()), o, r, v23, v24, v25, ())) (fun o r => (((), (), (), (), (), ()), ((v3, v4, ()), (v5, ()), (v6, (), ()), v7, (v8, (), (), (), (), (), (), (), (), ()), v9, v10, v11, v12, v13, v14, v15, v16, (v17, v18, ()), v19, (v20, (), ()), ()), o, r, v23, v24, v25, ()))
  (fun j hj o r ho hr => by
   simp only [u68_111_7_2, t68_111_7_2, ltn hj, ge0, cond_true, Bool.and_self, Int.toNat_natCast, rdB2 hj, decide_eq_true hj, cap16 ho, cap16 hr, eta2, f136_eq, Option.bind_some, nx hj (show v11.length ≤ 9223372036854775807 by omega)])
  (fun o r => by simp only [u68_111_7_2, t68_111_7_2, nlt, cond_false]) hl ho hr
theorem w68_111_7_3 (hl : v12.length ≤ 200) (ho : o.length ≤ 700) (hr : r.length ≤ 700) :
  iter big u68_111_7_3 (((), (), (), (), (), (), ((v12.length : Nat) : Int), 0, ()), ((v3, v4, ()), (v5, ()), (v6, (), ()), v7, (v8, (), (), (), (), (), (), (), (), ()), v9, v10, v11, v12, v13, v14, v15, v16, (v17, v18, ()), v19, (v20, (), ()), ()), o, r, v23, v24, v25, v26, ()) = some (.inl (((), (), (), (), (), ()), ((v3, v4, ()), (v5, ()), (v6, (), ()), v7, (v8, (), (), (), (), (), (), (), (), ()), v9, v10, v11, v12, v13, v14, v15, v16, (v17, v18, ()), v19, (v20, (), ()), ()), (o ++ v12.filter (fun _ => true)), (r ++ v12.filter (fun x => !(fun _ => true) x)), v23, v24, v25, v26, ())) :=
 it_part (u := u68_111_7_3) v12 (fun _ => true) (fun j o r => (((), (), (), (), (), (), ((v12.length : Nat) : Int), ((j : Nat) : Int), ()), ((v3, v4, ()), (v5, ()), (v6, (), ()), v7, (v8, (), (), (), (), (), (), (), (), ()), v9, v10, v11, v12, v13, v14, v15, v16, (v17, v18, ()), v19, (v20, (), ()), ()), o, r, v23, v24, v25, v26, ())) (fun o r => (((), (), (), (), (), ()), ((v3, v4, ()), (v5, ()), (v6, (), ()), v7, (v8, (), (), (), (), (), (), (), (), ()), v9, v10, v11, v12, v13, v14, v15, v16, (v17, v18, ()), v19, (v20, (), ()), ()), o, r, v23, v24, v25, v26, ()))
  (fun j hj o r ho hr => by
   simp only [u68_111_7_3, t68_111_7_3, ltn hj, ge0, cond_true, Bool.and_self, Int.toNat_natCast, rdB2 hj, decide_eq_true hj, cap16 ho, cap16 hr, eta2, f136_eq, Option.bind_some, nx hj (show v12.length ≤ 9223372036854775807 by omega)])
  (fun o r => by simp only [u68_111_7_3, t68_111_7_3, nlt, cond_false]) hl ho hr
theorem w68_111_7_4 (hl : v13.length ≤ 200) (ho : o.length ≤ 700) (hr : r.length ≤ 700) :
  iter big u68_111_7_4 (((), (), (), (), (), (), ((v13.length : Nat) : Int), 0, ()), ((v3, v4, ()), (v5, ()), (v6, (), ()), v7, (v8, (), (), (), (), (), (), (), (), ()), v9, v10, v11, v12, v13, v14, v15, v16, (v17, v18, ()), v19, (v20, (), ()), ()), o, r, v23, v24, v25, v26, v27, ()) = some (.inl (((), (), (), (), (), ()), ((v3, v4, ()), (v5, ()), (v6, (), ()), v7, (v8, (), (), (), (), (), (), (), (), ()), v9, v10, v11, v12, v13, v14, v15, v16, (v17, v18, ()), v19, (v20, (), ()), ()), (o ++ v13.filter (fun _ => true)), (r ++ v13.filter (fun x => !(fun _ => true) x)), v23, v24, v25, v26, v27, ())) :=
 it_part (u := u68_111_7_4) v13 (fun _ => true) (fun j o r => (((), (), (), (), (), (), ((v13.length : Nat) : Int), ((j : Nat) : Int), ()), ((v3, v4, ()), (v5, ()), (v6, (), ()), v7, (v8, (), (), (), (), (), (), (), (), ()), v9, v10, v11, v12, v13, v14, v15, v16, (v17, v18, ()), v19, (v20, (), ()), ()), o, r, v23, v24, v25, v26, v27, ())) (fun o r => (((), (), (), (), (), ()), ((v3, v4, ()), (v5, ()), (v6, (), ()), v7, (v8, (), (), (), (), (), (), (), (), ()), v9, v10, v11, v12, v13, v14, v15, v16, (v17, v18, ()), v19, (v20, (), ()), ()), o, r, v23, v24, v25, v26, v27, ()))
  (fun j hj o r ho hr => by
   simp only [u68_111_7_4, t68_111_7_4, ltn hj, ge0, cond_true, Bool.and_self, Int.toNat_natCast, rdB2 hj, decide_eq_true hj, cap16 ho, cap16 hr, eta2, f136_eq, Option.bind_some, nx hj (show v13.length ≤ 9223372036854775807 by omega)])
  (fun o r => by simp only [u68_111_7_4, t68_111_7_4, nlt, cond_false]) hl ho hr
theorem w68_111_7_5 (hl : v14.length ≤ 200) (ho : o.length ≤ 700) (hr : r.length ≤ 700) :
  iter big u68_111_7_5 (((), (), (), (), (), (), ((v14.length : Nat) : Int), 0, ()), ((v3, v4, ()), (v5, ()), (v6, (), ()), v7, (v8, (), (), (), (), (), (), (), (), ()), v9, v10, v11, v12, v13, v14, v15, v16, (v17, v18, ()), v19, (v20, (), ()), ()), o, r, v23, v24, v25, v26, v27, v28, ()) = some (.inl (((), (), (), (), (), ()), ((v3, v4, ()), (v5, ()), (v6, (), ()), v7, (v8, (), (), (), (), (), (), (), (), ()), v9, v10, v11, v12, v13, v14, v15, v16, (v17, v18, ()), v19, (v20, (), ()), ()), (o ++ v14.filter (fun _ => true)), (r ++ v14.filter (fun x => !(fun _ => true) x)), v23, v24, v25, v26, v27, v28, ())) :=
 it_part (u := u68_111_7_5) v14 (fun _ => true) (fun j o r => (((), (), (), (), (), (), ((v14.length : Nat) : Int), ((j : Nat) : Int), ()), ((v3, v4, ()), (v5, ()), (v6, (), ()), v7, (v8, (), (), (), (), (), (), (), (), ()), v9, v10, v11, v12, v13, v14, v15, v16, (v17, v18, ()), v19, (v20, (), ()), ()), o, r, v23, v24, v25, v26, v27, v28, ())) (fun o r => (((), (), (), (), (), ()), ((v3, v4, ()), (v5, ()), (v6, (), ()), v7, (v8, (), (), (), (), (), (), (), (), ()), v9, v10, v11, v12, v13, v14, v15, v16, (v17, v18, ()), v19, (v20, (), ()), ()), o, r, v23, v24, v25, v26, v27, v28, ()))
  (fun j hj o r ho hr => by
   simp only [u68_111_7_5, t68_111_7_5, ltn hj, ge0, cond_true, Bool.and_self, Int.toNat_natCast, rdB2 hj, decide_eq_true hj, cap16 ho, cap16 hr, eta2, f136_eq, Option.bind_some, nx hj (show v14.length ≤ 9223372036854775807 by omega)])
  (fun o r => by simp only [u68_111_7_5, t68_111_7_5, nlt, cond_false]) hl ho hr
theorem w68_111_7_6 (hl : v15.length ≤ 200) (ho : o.length ≤ 700) (hr : r.length ≤ 700) :
  iter big u68_111_7_6 (((), (), (), (), (), (), ((v15.length : Nat) : Int), 0, ()), ((v3, v4, ()), (v5, ()), (v6, (), ()), v7, (v8, (), (), (), (), (), (), (), (), ()), v9, v10, v11, v12, v13, v14, v15, v16, (v17, v18, ()), v19, (v20, (), ()), ()), o, r, v23, v24, v25, v26, v27, v28, v29, ()) = some (.inl (((), (), (), (), (), ()), ((v3, v4, ()), (v5, ()), (v6, (), ()), v7, (v8, (), (), (), (), (), (), (), (), ()), v9, v10, v11, v12, v13, v14, v15, v16, (v17, v18, ()), v19, (v20, (), ()), ()), (o ++ v15.filter (fun _ => true)), (r ++ v15.filter (fun x => !(fun _ => true) x)), v23, v24, v25, v26, v27, v28, v29, ())) :=
 it_part (u := u68_111_7_6) v15 (fun _ => true) (fun j o r => (((), (), (), (), (), (), ((v15.length : Nat) : Int), ((j : Nat) : Int), ()), ((v3, v4, ()), (v5, ()), (v6, (), ()), v7, (v8, (), (), (), (), (), (), (), (), ()), v9, v10, v11, v12, v13, v14, v15, v16, (v17, v18, ()), v19, (v20, (), ()), ()), o, r, v23, v24, v25, v26, v27, v28, v29, ())) (fun o r => (((), (), (), (), (), ()), ((v3, v4, ()), (v5, ()), (v6, (), ()), v7, (v8, (), (), (), (), (), (), (), (), ()), v9, v10, v11, v12, v13, v14, v15, v16, (v17, v18, ()), v19, (v20, (), ()), ()), o, r, v23, v24, v25, v26, v27, v28, v29, ()))
  (fun j hj o r ho hr => by
   simp only [u68_111_7_6, t68_111_7_6, ltn hj, ge0, cond_true, Bool.and_self, Int.toNat_natCast, rdB2 hj, decide_eq_true hj, cap16 ho, cap16 hr, eta2, f136_eq, Option.bind_some, nx hj (show v15.length ≤ 9223372036854775807 by omega)])
  (fun o r => by simp only [u68_111_7_6, t68_111_7_6, nlt, cond_false]) hl ho hr
theorem w68_111_7_7 (hl : v16.length ≤ 200) (ho : o.length ≤ 700) (hr : r.length ≤ 700) :
  iter big u68_111_7_7 (((), (), (), (), (), (), ((v16.length : Nat) : Int), 0, ()), ((v3, v4, ()), (v5, ()), (v6, (), ()), v7, (v8, (), (), (), (), (), (), (), (), ()), v9, v10, v11, v12, v13, v14, v15, v16, (v17, v18, ()), v19, (v20, (), ()), ()), o, r, v23, v24, v25, v26, v27, v28, v29, v30, ()) = some (.inl (((), (), (), (), (), ()), ((v3, v4, ()), (v5, ()), (v6, (), ()), v7, (v8, (), (), (), (), (), (), (), (), ()), v9, v10, v11, v12, v13, v14, v15, v16, (v17, v18, ()), v19, (v20, (), ()), ()), (o ++ v16.filter (fun _ => true)), (r ++ v16.filter (fun x => !(fun _ => true) x)), v23, v24, v25, v26, v27, v28, v29, v30, ())) :=
 it_part (u := u68_111_7_7) v16 (fun _ => true) (fun j o r => (((), (), (), (), (), (), ((v16.length : Nat) : Int), ((j : Nat) : Int), ()), ((v3, v4, ()), (v5, ()), (v6, (), ()), v7, (v8, (), (), (), (), (), (), (), (), ()), v9, v10, v11, v12, v13, v14, v15, v16, (v17, v18, ()), v19, (v20, (), ()), ()), o, r, v23, v24, v25, v26, v27, v28, v29, v30, ())) (fun o r => (((), (), (), (), (), ()), ((v3, v4, ()), (v5, ()), (v6, (), ()), v7, (v8, (), (), (), (), (), (), (), (), ()), v9, v10, v11, v12, v13, v14, v15, v16, (v17, v18, ()), v19, (v20, (), ()), ()), o, r, v23, v24, v25, v26, v27, v28, v29, v30, ()))
  (fun j hj o r ho hr => by
   simp only [u68_111_7_7, t68_111_7_7, ltn hj, ge0, cond_true, Bool.and_self, Int.toNat_natCast, rdB2 hj, decide_eq_true hj, cap16 ho, cap16 hr, eta2, f136_eq, Option.bind_some, nx hj (show v16.length ≤ 9223372036854775807 by omega)])
  (fun o r => by simp only [u68_111_7_7, t68_111_7_7, nlt, cond_false]) hl ho hr
end
section
variable (v3 : Int) (v4 : (List (Int × Int))) (v5 v6 : Int) (v7 v8 v9 v10 v11 v12 v13 v14 v15 v16 v17 v18 v19 v20 v21 v22 v23 v24 : (List (Int × Int))) (v25 : Int) (v28 v29 v30 v31 v32 v33 v34 v35 : (List (Int × Int))) (o r : List TT)
theorem w69_111_7_0 (hl : v8.length ≤ 200) (ho : o.length ≤ 700) (hr : r.length ≤ 700) :
  iter big u69_111_7_0 (((), (), (), (), (), (), ((v8.length : Nat) : Int), 0, ()), ((v3, v4, ()), (v5, (), ()), (v6, (), (), (), (), (), (), (), (), ()), v7, v8, v9, v10, v11, v12, v13, v14, v15, ()), o, r, ()) = some (.inl (((), (), (), (), (), ()), ((v3, v4, ()), (v5, (), ()), (v6, (), (), (), (), (), (), (), (), ()), v7, v8, v9, v10, v11, v12, v13, v14, v15, ()), (o ++ v8.filter (fun x => decide (x.2 ≤ v6))), (r ++ v8.filter (fun x => !(fun x => decide (x.2 ≤ v6)) x)), ())) :=
 it_part (u := u69_111_7_0) v8 (fun x => decide (x.2 ≤ v6)) (fun j o r => (((), (), (), (), (), (), ((v8.length : Nat) : Int), ((j : Nat) : Int), ()), ((v3, v4, ()), (v5, (), ()), (v6, (), (), (), (), (), (), (), (), ()), v7, v8, v9, v10, v11, v12, v13, v14, v15, ()), o, r, ())) (fun o r => (((), (), (), (), (), ()), ((v3, v4, ()), (v5, (), ()), (v6, (), (), (), (), (), (), (), (), ()), v7, v8, v9, v10, v11, v12, v13, v14, v15, ()), o, r, ()))
  (fun j hj o r ho hr => by
   simp only [u69_111_7_0, t69_111_7_0, ltn hj, ge0, cond_true, Bool.and_self, Int.toNat_natCast, rdB2 hj, decide_eq_true hj, cap16 ho, cap16 hr, eta2, nx hj (show v8.length ≤ 9223372036854775807 by omega)])
  (fun o r => by simp only [u69_111_7_0, t69_111_7_0, nlt, cond_false]) hl ho hr
theorem w69_111_7_1 (hl : v9.length ≤ 200) (ho : o.length ≤ 700) (hr : r.length ≤ 700) :
  iter big u69_111_7_1 (((), (), (), (), (), (), ((v9.length : Nat) : Int), 0, ()), ((v3, v4, ()), (v5, (), ()), (v6, (), (), (), (), (), (), (), (), ()), v7, v8, v9, v10, v11, v12, v13, v14, v15, ()), o, r, v18, ()) = some (.inl (((), (), (), (), (), ()), ((v3, v4, ()), (v5, (), ()), (v6, (), (), (), (), (), (), (), (), ()), v7, v8, v9, v10, v11, v12, v13, v14, v15, ()), (o ++ v9.filter (fun x => decide (x.2 ≤ v6))), (r ++ v9.filter (fun x => !(fun x => decide (x.2 ≤ v6)) x)), v18, ())) :=
 it_part (u := u69_111_7_1) v9 (fun x => decide (x.2 ≤ v6)) (fun j o r => (((), (), (), (), (), (), ((v9.length : Nat) : Int), ((j : Nat) : Int), ()), ((v3, v4, ()), (v5, (), ()), (v6, (), (), (), (), (), (), (), (), ()), v7, v8, v9, v10, v11, v12, v13, v14, v15, ()), o, r, v18, ())) (fun o r => (((), (), (), (), (), ()), ((v3, v4, ()), (v5, (), ()), (v6, (), (), (), (), (), (), (), (), ()), v7, v8, v9, v10, v11, v12, v13, v14, v15, ()), o, r, v18, ()))
  (fun j hj o r ho hr => by
   simp only [u69_111_7_1, t69_111_7_1, ltn hj, ge0, cond_true, Bool.and_self, Int.toNat_natCast, rdB2 hj, decide_eq_true hj, cap16 ho, cap16 hr, eta2, nx hj (show v9.length ≤ 9223372036854775807 by omega)])
  (fun o r => by simp only [u69_111_7_1, t69_111_7_1, nlt, cond_false]) hl ho hr
theorem w69_111_7_2 (hl : v10.length ≤ 200) (ho : o.length ≤ 700) (hr : r.length ≤ 700) :
  iter big u69_111_7_2 (((), (), (), (), (), (), ((v10.length : Nat) : Int), 0, ()), ((v3, v4, ()), (v5, (), ()), (v6, (), (), (), (), (), (), (), (), ()), v7, v8, v9, v10, v11, v12, v13, v14, v15, ()), o, r, v18, v19, ()) = some (.inl (((), (), (), (), (), ()), ((v3, v4, ()), (v5, (), ()), (v6, (), (), (), (), (), (), (), (), ()), v7, v8, v9, v10, v11, v12, v13, v14, v15, ()), (o ++ v10.filter (fun x => decide (x.2 ≤ v6))), (r ++ v10.filter (fun x => !(fun x => decide (x.2 ≤ v6)) x)), v18, v19, ())) :=
 it_part (u := u69_111_7_2) v10 (fun x => decide (x.2 ≤ v6)) (fun j o r => (((), (), (), (), (), (), ((v10.length : Nat) : Int), ((j : Nat) : Int), ()), ((v3, v4, ()), (v5, (), ()), (v6, (), (), (), (), (), (), (), (), ()), v7, v8, v9, v10, v11, v12, v13, v14, v15, ()), o, r, v18, v19, ())) (fun o r => (((), (), (), (), (), ()), ((v3, v4, ()), (v5, (), ()), (v6, (), (), (), (), (), (), (), (), ()), v7, v8, v9, v10, v11, v12, v13, v14, v15, ()), o, r, v18, v19, ()))
  (fun j hj o r ho hr => by
   simp only [u69_111_7_2, t69_111_7_2, ltn hj, ge0, cond_true, Bool.and_self, Int.toNat_natCast, rdB2 hj, decide_eq_true hj, cap16 ho, cap16 hr, eta2, nx hj (show v10.length ≤ 9223372036854775807 by omega)])
  (fun o r => by simp only [u69_111_7_2, t69_111_7_2, nlt, cond_false]) hl ho hr
theorem w69_111_7_3 (hl : v11.length ≤ 200) (ho : o.length ≤ 700) (hr : r.length ≤ 700) :
  iter big u69_111_7_3 (((), (), (), (), (), (), ((v11.length : Nat) : Int), 0, ()), ((v3, v4, ()), (v5, (), ()), (v6, (), (), (), (), (), (), (), (), ()), v7, v8, v9, v10, v11, v12, v13, v14, v15, ()), o, r, v18, v19, v20, ()) = some (.inl (((), (), (), (), (), ()), ((v3, v4, ()), (v5, (), ()), (v6, (), (), (), (), (), (), (), (), ()), v7, v8, v9, v10, v11, v12, v13, v14, v15, ()), (o ++ v11.filter (fun x => decide (x.2 ≤ v6))), (r ++ v11.filter (fun x => !(fun x => decide (x.2 ≤ v6)) x)), v18, v19, v20, ())) :=
 it_part (u := u69_111_7_3) v11 (fun x => decide (x.2 ≤ v6)) (fun j o r => (((), (), (), (), (), (), ((v11.length : Nat) : Int), ((j : Nat) : Int), ()), ((v3, v4, ()), (v5, (), ()), (v6, (), (), (), (), (), (), (), (), ()), v7, v8, v9, v10, v11, v12, v13, v14, v15, ()), o, r, v18, v19, v20, ())) (fun o r => (((), (), (), (), (), ()), ((v3, v4, ()), (v5, (), ()), (v6, (), (), (), (), (), (), (), (), ()), v7, v8, v9, v10, v11, v12, v13, v14, v15, ()), o, r, v18, v19, v20, ()))
  (fun j hj o r ho hr => by
   simp only [u69_111_7_3, t69_111_7_3, ltn hj, ge0, cond_true, Bool.and_self, Int.toNat_natCast, rdB2 hj, decide_eq_true hj, cap16 ho, cap16 hr, eta2, nx hj (show v11.length ≤ 9223372036854775807 by omega)])
  (fun o r => by simp only [u69_111_7_3, t69_111_7_3, nlt, cond_false]) hl ho hr
theorem w69_111_7_4 (hl : v12.length ≤ 200) (ho : o.length ≤ 700) (hr : r.length ≤ 700) :
  iter big u69_111_7_4 (((), (), (), (), (), (), ((v12.length : Nat) : Int), 0, ()), ((v3, v4, ()), (v5, (), ()), (v6, (), (), (), (), (), (), (), (), ()), v7, v8, v9, v10, v11, v12, v13, v14, v15, ()), o, r, v18, v19, v20, v21, ()) = some (.inl (((), (), (), (), (), ()), ((v3, v4, ()), (v5, (), ()), (v6, (), (), (), (), (), (), (), (), ()), v7, v8, v9, v10, v11, v12, v13, v14, v15, ()), (o ++ v12.filter (fun x => decide (x.2 ≤ v6))), (r ++ v12.filter (fun x => !(fun x => decide (x.2 ≤ v6)) x)), v18, v19, v20, v21, ())) :=
 it_part (u := u69_111_7_4) v12 (fun x => decide (x.2 ≤ v6)) (fun j o r => (((), (), (), (), (), (), ((v12.length : Nat) : Int), ((j : Nat) : Int), ()), ((v3, v4, ()), (v5, (), ()), (v6, (), (), (), (), (), (), (), (), ()), v7, v8, v9, v10, v11, v12, v13, v14, v15, ()), o, r, v18, v19, v20, v21, ())) (fun o r => (((), (), (), (), (), ()), ((v3, v4, ()), (v5, (), ()), (v6, (), (), (), (), (), (), (), (), ()), v7, v8, v9, v10, v11, v12, v13, v14, v15, ()), o, r, v18, v19, v20, v21, ()))
  (fun j hj o r ho hr => by
   simp only [u69_111_7_4, t69_111_7_4, ltn hj, ge0, cond_true, Bool.and_self, Int.toNat_natCast, rdB2 hj, decide_eq_true hj, cap16 ho, cap16 hr, eta2, nx hj (show v12.length ≤ 9223372036854775807 by omega)])
  (fun o r => by simp only [u69_111_7_4, t69_111_7_4, nlt, cond_false]) hl ho hr
theorem w69_111_7_5 (hl : v13.length ≤ 200) (ho : o.length ≤ 700) (hr : r.length ≤ 700) :
  iter big u69_111_7_5 (((), (), (), (), (), (), ((v13.length : Nat) : Int), 0, ()), ((v3, v4, ()), (v5, (), ()), (v6, (), (), (), (), (), (), (), (), ()), v7, v8, v9, v10, v11, v12, v13, v14, v15, ()), o, r, v18, v19, v20, v21, v22, ()) = some (.inl (((), (), (), (), (), ()), ((v3, v4, ()), (v5, (), ()), (v6, (), (), (), (), (), (), (), (), ()), v7, v8, v9, v10, v11, v12, v13, v14, v15, ()), (o ++ v13.filter (fun x => decide (x.2 ≤ v6))), (r ++ v13.filter (fun x => !(fun x => decide (x.2 ≤ v6)) x)), v18, v19, v20, v21, v22, ())) :=
 it_part (u := u69_111_7_5) v13 (fun x => decide (x.2 ≤ v6)) (fun j o r => (((), (), (), (), (), (), ((v13.length : Nat) : Int), ((j : Nat) : Int), ()), ((v3, v4, ()), (v5, (), ()), (v6, (), (), (), (), (), (), (), (), ()), v7, v8, v9, v10, v11, v12, v13, v14, v15, ()), o, r, v18, v19, v20, v21, v22, ())) (fun o r => (((), (), (), (), (), ()), ((v3, v4, ()), (v5, (), ()), (v6, (), (), (), (), (), (), (), (), ()), v7, v8, v9, v10, v11, v12, v13, v14, v15, ()), o, r, v18, v19, v20, v21, v22, ()))
  (fun j hj o r ho hr => by
   simp only [u69_111_7_5, t69_111_7_5, ltn hj, ge0, cond_true, Bool.and_self, Int.toNat_natCast, rdB2 hj, decide_eq_true hj, cap16 ho, cap16 hr, eta2, nx hj (show v13.length ≤ 9223372036854775807 by omega)])
  (fun o r => by simp only [u69_111_7_5, t69_111_7_5, nlt, cond_false]) hl ho hr
theorem w69_111_7_6 (hl : v14.length ≤ 200) (ho : o.length ≤ 700) (hr : r.length ≤ 700) :
  iter big u69_111_7_6 (((), (), (), (), (), (), ((v14.length : Nat) : Int), 0, ()), ((v3, v4, ()), (v5, (), ()), (v6, (), (), (), (), (), (), (), (), ()), v7, v8, v9, v10, v11, v12, v13, v14, v15, ()), o, r, v18, v19, v20, v21, v22, v23, ()) = some (.inl (((), (), (), (), (), ()), ((v3, v4, ()), (v5, (), ()), (v6, (), (), (), (), (), (), (), (), ()), v7, v8, v9, v10, v11, v12, v13, v14, v15, ()), (o ++ v14.filter (fun x => decide (x.2 ≤ v6))), (r ++ v14.filter (fun x => !(fun x => decide (x.2 ≤ v6)) x)), v18, v19, v20, v21, v22, v23, ())) :=
 it_part (u := u69_111_7_6) v14 (fun x => decide (x.2 ≤ v6)) (fun j o r => (((), (), (), (), (), (), ((v14.length : Nat) : Int), ((j : Nat) : Int), ()), ((v3, v4, ()), (v5, (), ()), (v6, (), (), (), (), (), (), (), (), ()), v7, v8, v9, v10, v11, v12, v13, v14, v15, ()), o, r, v18, v19, v20, v21, v22, v23, ())) (fun o r => (((), (), (), (), (), ()), ((v3, v4, ()), (v5, (), ()), (v6, (), (), (), (), (), (), (), (), ()), v7, v8, v9, v10, v11, v12, v13, v14, v15, ()), o, r, v18, v19, v20, v21, v22, v23, ()))
  (fun j hj o r ho hr => by
   simp only [u69_111_7_6, t69_111_7_6, ltn hj, ge0, cond_true, Bool.and_self, Int.toNat_natCast, rdB2 hj, decide_eq_true hj, cap16 ho, cap16 hr, eta2, nx hj (show v14.length ≤ 9223372036854775807 by omega)])
  (fun o r => by simp only [u69_111_7_6, t69_111_7_6, nlt, cond_false]) hl ho hr
theorem w69_111_7_7 (hl : v15.length ≤ 200) (ho : o.length ≤ 700) (hr : r.length ≤ 700) :
  iter big u69_111_7_7 (((), (), (), (), (), (), ((v15.length : Nat) : Int), 0, ()), ((v3, v4, ()), (v5, (), ()), (v6, (), (), (), (), (), (), (), (), ()), v7, v8, v9, v10, v11, v12, v13, v14, v15, ()), o, r, v18, v19, v20, v21, v22, v23, v24, ()) = some (.inl (((), (), (), (), (), ()), ((v3, v4, ()), (v5, (), ()), (v6, (), (), (), (), (), (), (), (), ()), v7, v8, v9, v10, v11, v12, v13, v14, v15, ()), (o ++ v15.filter (fun x => decide (x.2 ≤ v6))), (r ++ v15.filter (fun x => !(fun x => decide (x.2 ≤ v6)) x)), v18, v19, v20, v21, v22, v23, v24, ())) :=
 it_part (u := u69_111_7_7) v15 (fun x => decide (x.2 ≤ v6)) (fun j o r => (((), (), (), (), (), (), ((v15.length : Nat) : Int), ((j : Nat) : Int), ()), ((v3, v4, ()), (v5, (), ()), (v6, (), (), (), (), (), (), (), (), ()), v7, v8, v9, v10, v11, v12, v13, v14, v15, ()), o, r, v18, v19, v20, v21, v22, v23, v24, ())) (fun o r => (((), (), (), (), (), ()), ((v3, v4, ()), (v5, (), ()), (v6, (), (), (), (), (), (), (), (), ()), v7, v8, v9, v10, v11, v12, v13, v14, v15, ()), o, r, v18, v19, v20, v21, v22, v23, v24, ()))
  (fun j hj o r ho hr => by
   simp only [u69_111_7_7, t69_111_7_7, ltn hj, ge0, cond_true, Bool.and_self, Int.toNat_natCast, rdB2 hj, decide_eq_true hj, cap16 ho, cap16 hr, eta2, nx hj (show v15.length ≤ 9223372036854775807 by omega)])
  (fun o r => by simp only [u69_111_7_7, t69_111_7_7, nlt, cond_false]) hl ho hr
theorem w69_111_7_8 (hl : v18.length ≤ 200) (ho : o.length ≤ 700) (hr : r.length ≤ 700) :
  iter big u69_111_7_8 (((), (), (), (), (), (), ((v18.length : Nat) : Int), 0, ()), ((v3, v4, ()), (v5, (), ()), (v6, (), (), (), (), (), (), (), (), ()), v7, v8, v9, v10, v11, v12, v13, v14, v15, v16, v17, v18, v19, v20, v21, v22, v23, v24, (v25, (), ()), ()), o, r, v28, ()) = some (.inl (((), (), (), (), (), ()), ((v3, v4, ()), (v5, (), ()), (v6, (), (), (), (), (), (), (), (), ()), v7, v8, v9, v10, v11, v12, v13, v14, v15, v16, v17, v18, v19, v20, v21, v22, v23, v24, (v25, (), ()), ()), (o ++ v18.filter (fun _ => true)), (r ++ v18.filter (fun x => !(fun _ => true) x)), v28, ())) :=
 it_part (u := u69_111_7_8) v18 (fun _ => true) (fun j o r => (((), (), (), (), (), (), ((v18.length : Nat) : Int), ((j : Nat) : Int), ()), ((v3, v4, ()), (v5, (), ()), (v6, (), (), (), (), (), (), (), (), ()), v7, v8, v9, v10, v11, v12, v13, v14, v15, v16, v17, v18, v19, v20, v21, v22, v23, v24, (v25, (), ()), ()), o, r, v28, ())) (fun o r => (((), (), (), (), (), ()), ((v3, v4, ()), (v5, (), ()), (v6, (), (), (), (), (), (), (), (), ()), v7, v8, v9, v10, v11, v12, v13, v14, v15, v16, v17, v18, v19, v20, v21, v22, v23, v24, (v25, (), ()), ()), o, r, v28, ()))
  (fun j hj o r ho hr => by
   simp only [u69_111_7_8, t69_111_7_8, ltn hj, ge0, cond_true, Bool.and_self, Int.toNat_natCast, rdB2 hj, decide_eq_true hj, cap16 ho, cap16 hr, eta2, f136_eq, Option.bind_some, nx hj (show v18.length ≤ 9223372036854775807 by omega)])
  (fun o r => by simp only [u69_111_7_8, t69_111_7_8, nlt, cond_false]) hl ho hr
theorem w69_111_7_9 (hl : v19.length ≤ 200) (ho : o.length ≤ 700) (hr : r.length ≤ 700) :
  iter big u69_111_7_9 (((), (), (), (), (), (), ((v19.length : Nat) : Int), 0, ()), ((v3, v4, ()), (v5, (), ()), (v6, (), (), (), (), (), (), (), (), ()), v7, v8, v9, v10, v11, v12, v13, v14, v15, v16, v17, v18, v19, v20, v21, v22, v23, v24, (v25, (), ()), ()), o, r, v28, v29, ()) = some (.inl (((), (), (), (), (), ()), ((v3, v4, ()), (v5, (), ()), (v6, (), (), (), (), (), (), (), (), ()), v7, v8, v9, v10, v11, v12, v13, v14, v15, v16, v17, v18, v19, v20, v21, v22, v23, v24, (v25, (), ()), ()), (o ++ v19.filter (fun _ => true)), (r ++ v19.filter (fun x => !(fun _ => true) x)), v28, v29, ())) :=
 it_part (u := u69_111_7_9) v19 (fun _ => true) (fun j o r => (((), (), (), (), (), (), ((v19.length : Nat) : Int), ((j : Nat) : Int), ()), ((v3, v4, ()), (v5, (), ()), (v6, (), (), (), (), (), (), (), (), ()), v7, v8, v9, v10, v11, v12, v13, v14, v15, v16, v17, v18, v19, v20, v21, v22, v23, v24, (v25, (), ()), ()), o, r, v28, v29, ())) (fun o r => (((), (), (), (), (), ()), ((v3, v4, ()), (v5, (), ()), (v6, (), (), (), (), (), (), (), (), ()), v7, v8, v9, v10, v11, v12, v13, v14, v15, v16, v17, v18, v19, v20, v21, v22, v23, v24, (v25, (), ()), ()), o, r, v28, v29, ()))
  (fun j hj o r ho hr => by
   simp only [u69_111_7_9, t69_111_7_9, ltn hj, ge0, cond_true, Bool.and_self, Int.toNat_natCast, rdB2 hj, decide_eq_true hj, cap16 ho, cap16 hr, eta2, f136_eq, Option.bind_some, nx hj (show v19.length ≤ 9223372036854775807 by omega)])
  (fun o r => by simp only [u69_111_7_9, t69_111_7_9, nlt, cond_false]) hl ho hr
theorem w69_111_7_10 (hl : v20.length ≤ 200) (ho : o.length ≤ 700) (hr : r.length ≤ 700) :
  iter big u69_111_7_10 (((), (), (), (), (), (), ((v20.length : Nat) : Int), 0, ()), ((v3, v4, ()), (v5, (), ()), (v6, (), (), (), (), (), (), (), (), ()), v7, v8, v9, v10, v11, v12, v13, v14, v15, v16, v17, v18, v19, v20, v21, v22, v23, v24, (v25, (), ()), ()), o, r, v28, v29, v30, ()) = some (.inl (((), (), (), (), (), ()), ((v3, v4, ()), (v5, (), ()), (v6, (), (), (), (), (), (), (), (), ()), v7, v8, v9, v10, v11, v12, v13, v14, v15, v16, v17, v18, v19, v20, v21, v22, v23, v24, (v25, (), ()), ()), (o ++ v20.filter (fun _ => true)), (r ++ v20.filter (fun x => !(fun _ => true) x)), v28, v29, v30, ())) :=
 it_part (u := u69_111_7_10) v20 (fun _ => true) (fun j o r => (((), (), (), (), (), (), ((v20.length : Nat) : Int), ((j : Nat) : Int), ()), ((v3, v4, ()), (v5, (), ()), (v6, (), (), (), (), (), (), (), (), ()), v7, v8, v9, v10, v11, v12, v13, v14, v15, v16, v17, v18, v19, v20, v21, v22, v23, v24, (v25, (), ()), ()), o, r, v28, v29, v30, ())) (fun o r => (((), (), (), (), (), ()), ((v3, v4, ()), (v5, (), ()), (v6, (), (), (), (), (), (), (), (), ()), v7, v8, v9, v10, v11, v12, v13, v14, v15, v16, v17, v18, v19, v20, v21, v22, v23, v24, (v25, (), ()), ()), o, r, v28, v29, v30, ()))
  (fun j hj o r ho hr => by
   simp only [u69_111_7_10, t69_111_7_10, ltn hj, ge0, cond_true, Bool.and_self, Int.toNat_natCast, rdB2 hj, decide_eq_true hj, cap16 ho, cap16 hr, eta2, f136_eq, Option.bind_some, nx hj (show v20.length ≤ 9223372036854775807 by omega)])
  (fun o r => by simp only [u69_111_7_10, t69_111_7_10, nlt, cond_false]) hl ho hr
theorem w69_111_7_11 (hl : v21.length ≤ 200) (ho : o.length ≤ 700) (hr : r.length ≤ 700) :
  iter big u69_111_7_11 (((), (), (), (), (), (), ((v21.length : Nat) : Int), 0, ()), ((v3, v4, ()), (v5, (), ()), (v6, (), (), (), (), (), (), (), (), ()), v7, v8, v9, v10, v11, v12, v13, v14, v15, v16, v17, v18, v19, v20, v21, v22, v23, v24, (v25, (), ()), ()), o, r, v28, v29, v30, v31, ()) = some (.inl (((), (), (), (), (), ()), ((v3, v4, ()), (v5, (), ()), (v6, (), (), (), (), (), (), (), (), ()), v7, v8, v9, v10, v11, v12, v13, v14, v15, v16, v17, v18, v19, v20, v21, v22, v23, v24, (v25, (), ()), ()), (o ++ v21.filter (fun _ => true)), (r ++ v21.filter (fun x => !(fun _ => true) x)), v28, v29, v30, v31, ())) :=
 it_part (u := u69_111_7_11) v21 (fun _ => true) (fun j o r => (((), (), (), (), (), (), ((v21.length : Nat) : Int), ((j : Nat) : Int), ()), ((v3, v4, ()), (v5, (), ()), (v6, (), (), (), (), (), (), (), (), ()), v7, v8, v9, v10, v11, v12, v13, v14, v15, v16, v17, v18, v19, v20, v21, v22, v23, v24, (v25, (), ()), ()), o, r, v28, v29, v30, v31, ())) (fun o r => (((), (), (), (), (), ()), ((v3, v4, ()), (v5, (), ()), (v6, (), (), (), (), (), (), (), (), ()), v7, v8, v9, v10, v11, v12, v13, v14, v15, v16, v17, v18, v19, v20, v21, v22, v23, v24, (v25, (), ()), ()), o, r, v28, v29, v30, v31, ()))
  (fun j hj o r ho hr => by
   simp only [u69_111_7_11, t69_111_7_11, ltn hj, ge0, cond_true, Bool.and_self, Int.toNat_natCast, rdB2 hj, decide_eq_true hj, cap16 ho, cap16 hr, eta2, f136_eq, Option.bind_some, nx hj (show v21.length ≤ 9223372036854775807 by omega)])
  (fun o r => by simp only [u69_111_7_11, t69_111_7_11, nlt, cond_false]) hl ho hr
theorem w69_111_7_12 (hl : v22.length ≤ 200) (ho : o.length ≤ 700) (hr : r.length ≤ 700) :
  iter big u69_111_7_12 (((), (), (), (), (), (), ((v22.length : Nat) : Int), 0, ()), ((v3, v4, ()), (v5, (), ()), (v6, (), (), (), (), (), (), (), (), ()), v7, v8, v9, v10, v11, v12, v13, v14, v15, v16, v17, v18, v19, v20, v21, v22, v23, v24, (v25, (), ()), ()), o, r, v28, v29, v30, v31, v32, ()) = some (.inl (((), (), (), (), (), ()), ((v3, v4, ()), (v5, (), ()), (v6, (), (), (), (), (), (), (), (), ()), v7, v8, v9, v10, v11, v12, v13, v14, v15, v16, v17, v18, v19, v20, v21, v22, v23, v24, (v25, (), ()), ()), (o ++ v22.filter (fun _ => true)), (r ++ v22.filter (fun x => !(fun _ => true) x)), v28, v29, v30, v31, v32, ())) :=
 it_part (u := u69_111_7_12) v22 (fun _ => true) (fun j o r => (((), (), (), (), (), (), ((v22.length : Nat) : Int), ((j : Nat) : Int), ()), ((v3, v4, ()), (v5, (), ()), (v6, (), (), (), (), (), (), (), (), ()), v7, v8, v9, v10, v11, v12, v13, v14, v15, v16, v17, v18, v19, v20, v21, v22, v23, v24, (v25, (), ()), ()), o, r, v28, v29, v30, v31, v32, ())) (fun o r => (((), (), (), (), (), ()), ((v3, v4, ()), (v5, (), ()), (v6, (), (), (), (), (), (), (), (), ()), v7, v8, v9, v10, v11, v12, v13, v14, v15, v16, v17, v18, v19, v20, v21, v22, v23, v24, (v25, (), ()), ()), o, r, v28, v29, v30, v31, v32, ()))
  (fun j hj o r ho hr => by
   simp only [u69_111_7_12, t69_111_7_12, ltn hj, ge0, cond_true, Bool.and_self, Int.toNat_natCast, rdB2 hj, decide_eq_true hj, cap16 ho, cap16 hr, eta2, f136_eq, Option.bind_some, nx hj (show v22.length ≤ 9223372036854775807 by omega)])
  (fun o r => by simp only [u69_111_7_12, t69_111_7_12, nlt, cond_false]) hl ho hr
theorem w69_111_7_13 (hl : v23.length ≤ 200) (ho : o.length ≤ 700) (hr : r.length ≤ 700) :
  iter big u69_111_7_13 (((), (), (), (), (), (), ((v23.length : Nat) : Int), 0, ()), ((v3, v4, ()), (v5, (), ()), (v6, (), (), (), (), (), (), (), (), ()), v7, v8, v9, v10, v11, v12, v13, v14, v15, v16, v17, v18, v19, v20, v21, v22, v23, v24, (v25, (), ()), ()), o, r, v28, v29, v30, v31, v32, v33, ()) = some (.inl (((), (), (), (), (), ()), ((v3, v4, ()), (v5, (), ()), (v6, (), (), (), (), (), (), (), (), ()), v7, v8, v9, v10, v11, v12, v13, v14, v15, v16, v17, v18, v19, v20, v21, v22, v23, v24, (v25, (), ()), ()), (o ++ v23.filter (fun _ => true)), (r ++ v23.filter (fun x => !(fun _ => true) x)), v28, v29, v30, v31, v32, v33, ())) :=
 it_part (u := u69_111_7_13) v23 (fun _ => true) (fun j o r => (((), (), (), (), (), (), ((v23.length : Nat) : Int), ((j : Nat) : Int), ()), ((v3, v4, ()), (v5, (), ()), (v6, (), (), (), (), (), (), (), (), ()), v7, v8, v9, v10, v11, v12, v13, v14, v15, v16, v17, v18, v19, v20, v21, v22, v23, v24, (v25, (), ()), ()), o, r, v28, v29, v30, v31, v32, v33, ())) (fun o r => (((), (), (), (), (), ()), ((v3, v4, ()), (v5, (), ()), (v6, (), (), (), (), (), (), (), (), ()), v7, v8, v9, v10, v11, v12, v13, v14, v15, v16, v17, v18, v19, v20, v21, v22, v23, v24, (v25, (), ()), ()), o, r, v28, v29, v30, v31, v32, v33, ()))
  (fun j hj o r ho hr => by
   simp only [u69_111_7_13, t69_111_7_13, ltn hj, ge0, cond_true, Bool.and_self, Int.toNat_natCast, rdB2 hj, decide_eq_true hj, cap16 ho, cap16 hr, eta2, f136_eq, Option.bind_some, nx hj (show v23.length ≤ 9223372036854775807 by omega)])
  (fun o r => by simp only [u69_111_7_13, t69_111_7_13, nlt, cond_false]) hl ho hr
theorem w69_111_7_14 (hl : v24.length ≤ 200) (ho : o.length ≤ 700) (hr : r.length ≤ 700) :
  iter big u69_111_7_14 (((), (), (), (), (), (), ((v24.length : Nat) : Int), 0, ()), ((v3, v4, ()), (v5, (), ()), (v6, (), (), (), (), (), (), (), (), ()), v7, v8, v9, v10, v11, v12, v13, v14, v15, v16, v17, v18, v19, v20, v21, v22, v23, v24, (v25, (), ()), ()), o, r, v28, v29, v30, v31, v32, v33, v34, ()) = some (.inl (((), (), (), (), (), ()), ((v3, v4, ()), (v5, (), ()), (v6, (), (), (), (), (), (), (), (), ()), v7, v8, v9, v10, v11, v12, v13, v14, v15, v16, v17, v18, v19, v20, v21, v22, v23, v24, (v25, (), ()), ()), (o ++ v24.filter (fun _ => true)), (r ++ v24.filter (fun x => !(fun _ => true) x)), v28, v29, v30, v31, v32, v33, v34, ())) :=
 it_part (u := u69_111_7_14) v24 (fun _ => true) (fun j o r => (((), (), (), (), (), (), ((v24.length : Nat) : Int), ((j : Nat) : Int), ()), ((v3, v4, ()), (v5, (), ()), (v6, (), (), (), (), (), (), (), (), ()), v7, v8, v9, v10, v11, v12, v13, v14, v15, v16, v17, v18, v19, v20, v21, v22, v23, v24, (v25, (), ()), ()), o, r, v28, v29, v30, v31, v32, v33, v34, ())) (fun o r => (((), (), (), (), (), ()), ((v3, v4, ()), (v5, (), ()), (v6, (), (), (), (), (), (), (), (), ()), v7, v8, v9, v10, v11, v12, v13, v14, v15, v16, v17, v18, v19, v20, v21, v22, v23, v24, (v25, (), ()), ()), o, r, v28, v29, v30, v31, v32, v33, v34, ()))
  (fun j hj o r ho hr => by
   simp only [u69_111_7_14, t69_111_7_14, ltn hj, ge0, cond_true, Bool.and_self, Int.toNat_natCast, rdB2 hj, decide_eq_true hj, cap16 ho, cap16 hr, eta2, f136_eq, Option.bind_some, nx hj (show v24.length ≤ 9223372036854775807 by omega)])
  (fun o r => by simp only [u69_111_7_14, t69_111_7_14, nlt, cond_false]) hl ho hr
theorem w69_111_7_15 (hl : v17.length ≤ 200) (ho : o.length ≤ 700) (hr : r.length ≤ 700) :
  iter big u69_111_7_15 (((), (), (), (), (), (), ((v17.length : Nat) : Int), 0, ()), ((v3, v4, ()), (v5, (), ()), (v6, (), (), (), (), (), (), (), (), ()), v7, v8, v9, v10, v11, v12, v13, v14, v15, v16, v17, v18, v19, v20, v21, v22, v23, v24, (v25, (), ()), ()), o, r, v28, v29, v30, v31, v32, v33, v34, v35, ()) = some (.inl (((), (), (), (), (), ()), ((v3, v4, ()), (v5, (), ()), (v6, (), (), (), (), (), (), (), (), ()), v7, v8, v9, v10, v11, v12, v13, v14, v15, v16, v17, v18, v19, v20, v21, v22, v23, v24, (v25, (), ()), ()), (o ++ v17.filter (fun _ => true)), (r ++ v17.filter (fun x => !(fun _ => true) x)), v28, v29, v30, v31, v32, v33, v34, v35, ())) :=
 it_part (u := u69_111_7_15) v17 (fun _ => true) (fun j o r => (((), (), (), (), (), (), ((v17.length : Nat) : Int), ((j : Nat) : Int), ()), ((v3, v4, ()), (v5, (), ()), (v6, (), (), (), (), (), (), (), (), ()), v7, v8, v9, v10, v11, v12, v13, v14, v15, v16, v17, v18, v19, v20, v21, v22, v23, v24, (v25, (), ()), ()), o, r, v28, v29, v30, v31, v32, v33, v34, v35, ())) (fun o r => (((), (), (), (), (), ()), ((v3, v4, ()), (v5, (), ()), (v6, (), (), (), (), (), (), (), (), ()), v7, v8, v9, v10, v11, v12, v13, v14, v15, v16, v17, v18, v19, v20, v21, v22, v23, v24, (v25, (), ()), ()), o, r, v28, v29, v30, v31, v32, v33, v34, v35, ()))
  (fun j hj o r ho hr => by
   simp only [u69_111_7_15, t69_111_7_15, ltn hj, ge0, cond_true, Bool.and_self, Int.toNat_natCast, rdB2 hj, decide_eq_true hj, cap16 ho, cap16 hr, eta2, f136_eq, Option.bind_some, nx hj (show v17.length ≤ 9223372036854775807 by omega)])
  (fun o r => by simp only [u69_111_7_15, t69_111_7_15, nlt, cond_false]) hl ho hr
end
theorem w68_108_3_0 (v1 : (List (Int × Int))) (v4 : Int) (v5 : (List (Int × Int))) (v6 v7 : Int) (v8 : (List (Int × Int))) (v9 : Int) (hl : v1.length ≤ 200) (hv : ∀ x ∈ v1, 0 ≤ x.2 ∧ x.2 ≤ 1073741824) :
  iter big u68_108_3_0 (((), v1, ((v1.length : Nat) : Int), 0, ()), ((v4, v5, ()), (v6, ()), (v7, (), ()), v8, (v9, (), (), (), (), (), (), (), (), ()), ()), [], [], [], [], [], [], [], [], ()) = some (.inl (((), ()), ((v4, v5, ()), (v6, ()), (v7, (), ()), v8, (v9, (), (), (), (), (), (), (), (), ()), ()), (sl 0 v1), (sl 1 v1), (sl 2 v1), (sl 3 v1), (sl 4 v1), (sl 5 v1), (sl 6 v1), (sl 7 v1), ())) := by
 refine it_all (u := u68_108_3_0) (fun j => (((), v1, ((v1.length : Nat) : Int), ((j : Nat) : Int), ()), ((v4, v5, ()), (v6, ()), (v7, (), ()), v8, (v9, (), (), (), (), (), (), (), (), ()), ()), (sl 0 (v1.take j)), (sl 1 (v1.take j)), (sl 2 (v1.take j)), (sl 3 (v1.take j)), (sl 4 (v1.take j)), (sl 5 (v1.take j)), (sl 6 (v1.take j)), (sl 7 (v1.take j)), ())) (n := v1.length) (y := (((), ()), ((v4, v5, ()), (v6, ()), (v7, (), ()), v8, (v9, (), (), (), (), (), (), (), (), ()), ()), (sl 0 v1), (sl 1 v1), (sl 2 v1), (sl 3 v1), (sl 4 v1), (sl 5 v1), (sl 6 v1), (sl 7 v1), ())) (fun j hj => ?_) ?_ 0 big (Nat.zero_le _) (by unfold big; omega)
 ·have hx := hv v1[j] (List.getElem_mem hj)
  have hc : ∀ m, (sl m (v1.take j)).length ≤ 1000 := fun m => by have := sl_len m (v1.take j); rw [List.length_take] at this; omega
  have h8 : v1[j].2 % 8 = 0 ∨ v1[j].2 % 8 = 1 ∨ v1[j].2 % 8 = 2 ∨ v1[j].2 % 8 = 3 ∨ v1[j].2 % 8 = 4 ∨ v1[j].2 % 8 = 5 ∨ v1[j].2 % 8 = 6 ∨ v1[j].2 % 8 = 7 := by omega
  simp only [u68_108_3_0, t68_108_3_0, ltn hj, ge0, cond_true, Bool.and_self, Int.toNat_natCast, rdB2 hj, eta2, f135_eq hx.1 hx.2, Option.bind_some, cap16 (hc _), nx hj (show v1.length ≤ 9223372036854775807 by omega), take_snoc hj, sl_snoc]
  rcases h8 with h | h | h | h | h | h | h | h <;> rw [h] <;> rfl
 ·simp only [u68_108_3_0, t68_108_3_0, nlt, cond_false, List.take_length]
theorem w69_108_3_0 (v1 : (List (Int × Int))) (v4 : Int) (v5 : (List (Int × Int))) (v6 v7 : Int) (v8 : (List (Int × Int))) (hl : v1.length ≤ 200) (hv : ∀ x ∈ v1, 0 ≤ x.2 ∧ x.2 ≤ 1073741824) :
  iter big u69_108_3_0 (((), v1, ((v1.length : Nat) : Int), 0, ()), ((v4, v5, ()), (v6, (), ()), (v7, (), (), (), (), (), (), (), (), ()), ()), v8, [], [], [], [], [], [], [], [], ()) = some (.inl (((), ()), ((v4, v5, ()), (v6, (), ()), (v7, (), (), (), (), (), (), (), (), ()), ()), v8, (sl 0 v1), (sl 1 v1), (sl 2 v1), (sl 3 v1), (sl 4 v1), (sl 5 v1), (sl 6 v1), (sl 7 v1), ())) := by
 refine it_all (u := u69_108_3_0) (fun j => (((), v1, ((v1.length : Nat) : Int), ((j : Nat) : Int), ()), ((v4, v5, ()), (v6, (), ()), (v7, (), (), (), (), (), (), (), (), ()), ()), v8, (sl 0 (v1.take j)), (sl 1 (v1.take j)), (sl 2 (v1.take j)), (sl 3 (v1.take j)), (sl 4 (v1.take j)), (sl 5 (v1.take j)), (sl 6 (v1.take j)), (sl 7 (v1.take j)), ())) (n := v1.length) (y := (((), ()), ((v4, v5, ()), (v6, (), ()), (v7, (), (), (), (), (), (), (), (), ()), ()), v8, (sl 0 v1), (sl 1 v1), (sl 2 v1), (sl 3 v1), (sl 4 v1), (sl 5 v1), (sl 6 v1), (sl 7 v1), ())) (fun j hj => ?_) ?_ 0 big (Nat.zero_le _) (by unfold big; omega)
 ·have hx := hv v1[j] (List.getElem_mem hj)
  have hc : ∀ m, (sl m (v1.take j)).length ≤ 1000 := fun m => by have := sl_len m (v1.take j); rw [List.length_take] at this; omega
  have h8 : v1[j].2 % 8 = 0 ∨ v1[j].2 % 8 = 1 ∨ v1[j].2 % 8 = 2 ∨ v1[j].2 % 8 = 3 ∨ v1[j].2 % 8 = 4 ∨ v1[j].2 % 8 = 5 ∨ v1[j].2 % 8 = 6 ∨ v1[j].2 % 8 = 7 := by omega
  simp only [u69_108_3_0, t69_108_3_0, ltn hj, ge0, cond_true, Bool.and_self, Int.toNat_natCast, rdB2 hj, eta2, f135_eq hx.1 hx.2, Option.bind_some, cap16 (hc _), nx hj (show v1.length ≤ 9223372036854775807 by omega), take_snoc hj, sl_snoc]
  rcases h8 with h | h | h | h | h | h | h | h <;> rw [h] <;> rfl
 ·simp only [u69_108_3_0, t69_108_3_0, nlt, cond_false, List.take_length]
set_option maxHeartbeats 2000000
theorem ft (l : List TT) : (l.filter fun _ => true) = l := List.filter_eq_self.2 fun _ _ => rfl
theorem ff (l : List TT) : (l.filter fun _ => false) = [] := by rw [List.filter_eq_nil_iff]; simp
theorem sortT_len (l : List TT) : (sortT l).length = l.length := List.length_mergeSort _
theorem beq_self (n : Nat) : Nat.beq n n = true := Nat.beq_refl n
theorem g68_eq (y : Y68_108_3_0) (v4 : Int) (q0 q1 q2 q3 q4 q5 q6 q7 : List TT) (h : (q0 ++ q1 ++ q2 ++ q3 ++ q4 ++ q5 ++ q6 ++ q7).length ≤ 200) :
  g68 y v4 q0 q1 q2 q3 q4 q5 q6 q7 = some ((y.2.1.2.2.2.2.1.1, sortT (q0 ++ q1 ++ q2 ++ q3 ++ q4 ++ q5 ++ q6 ++ q7)), 0, ()) := by
 simp only [List.length_append] at h
 have h0 : q0.length ≤ 200 := by omega
 have h1 : q1.length ≤ 200 := by omega
 have h2 : q2.length ≤ 200 := by omega
 have h3 : q3.length ≤ 200 := by omega
 have h4 : q4.length ≤ 200 := by omega
 have h5 : q5.length ≤ 200 := by omega
 have h6 : q6.length ≤ 200 := by omega
 have h7 : q7.length ≤ 200 := by omega
 have z0 : ([] : List TT).length ≤ 700 := by simp
 have a0 : q0.length ≤ 700 := by omega
 have a1 : (q0 ++ q1).length ≤ 700 := by simp only [List.length_append]; omega
 have a2 : (q0 ++ q1 ++ q2).length ≤ 700 := by simp only [List.length_append]; omega
 have a3 : (q0 ++ q1 ++ q2 ++ q3).length ≤ 700 := by simp only [List.length_append]; omega
 have a4 : (q0 ++ q1 ++ q2 ++ q3 ++ q4).length ≤ 700 := by simp only [List.length_append]; omega
 have a5 : (q0 ++ q1 ++ q2 ++ q3 ++ q4 ++ q5).length ≤ 700 := by simp only [List.length_append]; omega
 have a6 : (q0 ++ q1 ++ q2 ++ q3 ++ q4 ++ q5 ++ q6).length ≤ 700 := by simp only [List.length_append]; omega
 have a7 : (q0 ++ q1 ++ q2 ++ q3 ++ q4 ++ q5 ++ q6 ++ q7).length ≤ 1000 := by simp only [List.length_append]; omega
 unfold g68
 simp only [Option.bind_some, w68_111_7_0, w68_111_7_1, w68_111_7_2, w68_111_7_3, w68_111_7_4, w68_111_7_5, w68_111_7_6, w68_111_7_7, ft, ff, Bool.not_true, List.nil_append, List.append_nil, h0, h1, h2, h3, h4, h5, h6, h7, z0, a0, a1, a2, a3, a4, a5, a6, fSortT_eq _ a7, sortT_len, beq_self, Bool.and_self, cond_true, decide_true]
def idsM (l : List TT) : List (Int × Int) := l.foldl (fun m x => mPut m x.1 (IntKind.wrap .i64 (mVal m x.1 + 1))) []
theorem idsM_snoc (l : List TT) (x : TT) : idsM (l ++ [x]) = mPut (idsM l) x.1 (IntKind.wrap .i64 (mVal (idsM l) x.1 + 1)) := by
 unfold idsM; rw [List.foldl_append]; rfl
theorem idsM_val : ∀ (n : Nat) (l : List TT) (h : n ≤ l.length), (l.Pairwise fun x y => x.1 ≠ y.1) → ∀ q, (∀ x ∈ l.take n, x.1 ≠ q) → mVal (idsM (l.take n)) q = 0
 | 0, l, _, _, q, _ => rfl
 | n + 1, l, h, hp, q, hq => by
  have hlt : n < l.length := by omega
  rw [take_snoc hlt, idsM_snoc, mVal_put, if_neg fun e => hq l[n] (by rw [take_snoc hlt]; exact List.mem_append.2 (.inr (List.mem_singleton.2 rfl))) e.symm]
  exact idsM_val n l (by omega) hp q fun x hx => hq x (by rw [take_snoc hlt]; exact List.mem_append.2 (.inl hx))
abbrev lastT (now : Int) (T : List TT) (j : Nat) : TT := if j = 0 then (1073741824, now) else T.getD (j - 1) (0, 0)
theorem f104_ok {now : Int} {T : List TT} (W : WhP now T) : f104 now T = some (true, ()) := by
 have hl := W.len
 unfold f104
 have e : iter big u104_4 (((), (), (), T, ((T.length : Nat) : Int), 0, ()), ((now, T, ()), [], (1073741824, now, ()), ()), ()) = some (.inl (((), ()), ((now, T, ()), ()), ())) := by
  have := it_all (u := u104_4) (fun j => (((), (), (), T, ((T.length : Nat) : Int), ((j : Nat) : Int), ()), ((now, T, ()), idsM (T.take j), ((lastT now T j).1, (lastT now T j).2, ()), ()), ())) (n := T.length) (y := (((), ()), ((now, T, ()), ()), ()))
   (fun j hj => by
    have hx := W.each T[j] (List.getElem_mem hj)
    have hm : mVal (idsM (T.take j)) T[j].1 = 0 := idsM_val j T (by omega) W.ids _ fun x hx => by
     obtain ⟨i, hi, rfl⟩ := List.mem_take_iff_getElem.1 hx
     exact List.pairwise_iff_getElem.1 W.ids i j (by omega) hj (by omega)
    have hL : lastT now T (j + 1) = T[j] := by
     unfold lastT
     rw [if_neg (by omega), Nat.add_sub_cancel, List.getD_eq_getElem?_getD, List.getElem?_eq_getElem hj, Option.getD_some]
    simp only [u104_4, t104_4, ltn hj, ge0, cond_true, Bool.and_self, Int.toNat_natCast, rdB2 hj]
    rw [decide_eq_false (show ¬ T[j].2 ≤ now by omega), decide_eq_false (show ¬ (1073741824 : Int) < T[j].2 by omega), decide_eq_false (show ¬ T[j].1 < 0 by omega)]
    simp only [cond_false]
    rw [hm, mVal_put, if_pos rfl, show IntKind.wrap .i64 ((0 : Int) + 1) = 1 by decide, decide_eq_false (show ¬ (1 : Int) < 1 by omega), nx hj (show T.length ≤ 9223372036854775807 by omega), hL]
    simp only [cond_false]
    have hM : idsM (T.take (j + 1)) = mPut (idsM (T.take j)) T[j].1 1 := by
     rw [take_snoc hj, idsM_snoc, hm]; rfl
    rw [hM]
    by_cases h0 : j = 0
    ·subst h0; rfl
    ·rw [decide_eq_true (show (0 : Int) < ((j : Nat) : Int) by omega)]
     have hlt : lastT now T j = T[j - 1]'(by omega) := by
      unfold lastT
      rw [if_neg h0, List.getD_eq_getElem?_getD, List.getElem?_eq_getElem (by omega), Option.getD_some]
     have ho : ordI ((lastT now T j).1, (lastT now T j).2) (T[j].1, T[j].2) < 0 := by
      have h2 := List.pairwise_iff_getElem.1 W.srt (j - 1) j (by omega) hj (by omega)
      rw [← tm_ord] at h2
      rw [hlt]
      exact of_decide_eq_true h2
     simp only [cond_true, f132_eq, Option.bind_some]
     rw [decide_eq_false (by omega)]; rfl)
   (by simp only [u104_4, t104_4, nlt, cond_false])
   0 big (Nat.zero_le _) (by unfold big; omega)
  exact this
 rw [e]
 simp only [Option.bind_some]
 rw [decide_eq_true W.now0, decide_eq_true W.now1, decide_eq_true (show ((T.length : Nat) : Int) ≤ 64 by omega)]; rfl
theorem slots_snoc (T : List TT) (x : TT) (m : Int) (h : x.2 % 8 = m) : (slots fun q => if m = q then sl q T ++ [x] else sl q T).Perm (T ++ [x]) := by
 have := slots_perm0 (T ++ [x])
 simp only [sl_snoc, h] at this
 exact this
theorem f68_eq {now : Int} {T : List TT} (W : WhP now T) {id at' : Int} (hi : 0 ≤ id) (hn : ∀ x ∈ T, x.1 ≠ id) (hl : T.length < 64) :
  f68 now T id at' = some (if at' ≤ now ∨ 1073741824 < at' then ((now, T), 10, ()) else ((now, sortT (T ++ [(id, at')])), 0, ())) := by
 unfold f68
 rw [f104_ok W]
 simp only [Option.bind_some, Bool.not_true, cond_false]
 rw [decide_eq_false (show ¬ id < 0 by omega)]
 simp only [cond_false]
 by_cases h1 : at' ≤ now
 ·rw [decide_eq_true h1, if_pos (.inl h1)]
  simp only [cond_true]
  rw [f106_eq _ _ (by omega)]; rfl
 rw [decide_eq_false h1]
 simp only [cond_false]
 by_cases h2 : 1073741824 < at'
 ·rw [decide_eq_true h2, if_pos (.inr h2)]
  simp only [cond_true]
  rw [f106_eq _ _ (by omega)]; rfl
 rw [decide_eq_false h2, if_neg (by rintro (h | h); exact h1 h; exact h2 h)]
 simp only [cond_false]
 have e1 : iter big u68_134_2_0 ((T, (), ((T.length : Nat) : Int), 0, ()), ((now, T, ()), (id, ()), (0, (), ()), ()), [], ()) = some (.inl ((), ((now, T, ()), (id, ()), (0, (), ()), ()), [], ())) := by
  refine it_all (u := u68_134_2_0) (fun j => ((T, (), ((T.length : Nat) : Int), ((j : Nat) : Int), ()), ((now, T, ()), (id, ()), (0, (), ()), ()), [], ())) (n := T.length) (y := ((), ((now, T, ()), (id, ()), (0, (), ()), ()), [], ())) (fun j hj => ?_) ?_ 0 big (Nat.zero_le _) (by unfold big; omega)
  ·simp only [u68_134_2_0, t68_134_2_0, ltn hj, ge0, cond_true, Bool.and_self, Int.toNat_natCast, rdB2 hj, nx hj (show T.length ≤ 9223372036854775807 by omega)]
   rw [decide_eq_false (hn _ (List.getElem_mem hj))]; rfl
  ·simp only [u68_134_2_0, t68_134_2_0, nlt, cond_false]
 rw [e1]
 simp only [Option.bind_some]
 rw [decide_eq_false (show ¬ ((T.length : Nat) : Int) = 64 by omega)]
 simp only [cond_false]
 rw [w68_108_3_0 _ _ _ _ _ _ _ (by omega) (fun x hx => by have := W.each x hx; have := W.now0; omega)]
 simp only [Option.bind_some]
 have n0 := W.now0
 rw [f135_eq (by omega) (by omega)]
 simp only [Option.bind_some]
 have hc : ∀ m, (sl m T).length ≤ 1000 := fun m => by have := sl_len m T; omega
 have h8 : at' % 8 = 0 ∨ at' % 8 = 1 ∨ at' % 8 = 2 ∨ at' % 8 = 3 ∨ at' % 8 = 4 ∨ at' % 8 = 5 ∨ at' % 8 = 6 ∨ at' % 8 = 7 := by omega
 have fin : ∀ (y : Y68_108_3_0) (m : Int), at' % 8 = m → y.2.1.2.2.2.2.1.1 = now →
   g68 y at' (if m = 0 then sl 0 T ++ [(id, at')] else sl 0 T) (if m = 1 then sl 1 T ++ [(id, at')] else sl 1 T) (if m = 2 then sl 2 T ++ [(id, at')] else sl 2 T) (if m = 3 then sl 3 T ++ [(id, at')] else sl 3 T)
    (if m = 4 then sl 4 T ++ [(id, at')] else sl 4 T) (if m = 5 then sl 5 T ++ [(id, at')] else sl 5 T) (if m = 6 then sl 6 T ++ [(id, at')] else sl 6 T) (if m = 7 then sl 7 T ++ [(id, at')] else sl 7 T) = some ((now, sortT (T ++ [(id, at')])), 0, ()) := by
  intro y m hm hy
  have hp := slots_snoc T (id, at') m hm
  rw [g68_eq _ _ _ _ _ _ _ _ _ _ (by have := hp.length_eq; simp only [List.length_append, List.length_cons, List.length_nil] at this ⊢; omega), hy]
  exact congrArg (fun l => some ((now, l), (0 : Int), ())) (sortT_eq hp)
 rcases h8 with h | h | h | h | h | h | h | h <;> rw [h] <;> simp only [Int.reduceEq, decide_true, decide_false, cond_true, cond_false, cap16 (hc _)] <;> exact fin _ _ h rfl
theorem f69_eq {now : Int} {T : List TT} (W : WhP now T) (to : Int) :
  f69 now T to = some (if to < now ∨ 1073741824 < to then ((now, T), [], 10, ()) else ((to, T.filter (fun x => !decide (x.2 ≤ to))), T.filter (fun x => decide (x.2 ≤ to)), 0, ())) := by
 have hl := W.len
 unfold f69
 rw [f104_ok W]
 simp only [Option.bind_some, Bool.not_true, cond_false]
 by_cases h1 : to < now
 ·rw [decide_eq_true h1, if_pos (.inl h1)]
  simp only [cond_true]
  rw [f106_eq _ _ (by omega)]; rfl
 rw [decide_eq_false h1]
 simp only [cond_false]
 by_cases h2 : 1073741824 < to
 ·rw [decide_eq_true h2, if_pos (.inr h2)]
  simp only [cond_true]
  rw [f106_eq _ _ (by omega)]; rfl
 rw [decide_eq_false h2, if_neg (by rintro (h | h); exact h1 h; exact h2 h)]
 simp only [cond_false]
 rw [w69_108_3_0 _ _ _ _ _ _ (by omega) (fun x hx => by have := W.each x hx; have := W.now0; omega)]
 simp only [Option.bind_some]
 have pF : ((sl 0 T).filter (fun x => decide (x.2 ≤ to)) ++ (sl 1 T).filter (fun x => decide (x.2 ≤ to)) ++ (sl 2 T).filter (fun x => decide (x.2 ≤ to)) ++ (sl 3 T).filter (fun x => decide (x.2 ≤ to)) ++ (sl 4 T).filter (fun x => decide (x.2 ≤ to)) ++ (sl 5 T).filter (fun x => decide (x.2 ≤ to)) ++ (sl 6 T).filter (fun x => decide (x.2 ≤ to)) ++ (sl 7 T).filter (fun x => decide (x.2 ≤ to))).Perm (T.filter (fun x => decide (x.2 ≤ to))) := slots_perm T (fun x => decide (x.2 ≤ to))
 have pN : ((sl 0 T).filter (fun x => !decide (x.2 ≤ to)) ++ (sl 1 T).filter (fun x => !decide (x.2 ≤ to)) ++ (sl 2 T).filter (fun x => !decide (x.2 ≤ to)) ++ (sl 3 T).filter (fun x => !decide (x.2 ≤ to)) ++ (sl 4 T).filter (fun x => !decide (x.2 ≤ to)) ++ (sl 5 T).filter (fun x => !decide (x.2 ≤ to)) ++ (sl 6 T).filter (fun x => !decide (x.2 ≤ to)) ++ (sl 7 T).filter (fun x => !decide (x.2 ≤ to))).Perm (T.filter (fun x => !decide (x.2 ≤ to))) := slots_perm T (fun x => !decide (x.2 ≤ to))
 have hc : ∀ m, (sl m T).length ≤ 64 := fun m => by have := sl_len m T; omega
 have k0 := hc 0
 have k1 := hc 1
 have k2 := hc 2
 have k3 := hc 3
 have k4 := hc 4
 have k5 := hc 5
 have k6 := hc 6
 have k7 := hc 7
 generalize sl 0 T = q0 at k0 pF pN ⊢
 generalize sl 1 T = q1 at k1 pF pN ⊢
 generalize sl 2 T = q2 at k2 pF pN ⊢
 generalize sl 3 T = q3 at k3 pF pN ⊢
 generalize sl 4 T = q4 at k4 pF pN ⊢
 generalize sl 5 T = q5 at k5 pF pN ⊢
 generalize sl 6 T = q6 at k6 pF pN ⊢
 generalize sl 7 T = q7 at k7 pF pN ⊢
 have z0 : ([] : List TT).length ≤ 700 := by simp
 have f0 : (q0.filter (fun x => decide (x.2 ≤ to))).length ≤ 64 := by have := List.length_filter_le (fun x => decide (x.2 ≤ to)) q0; omega
 have g0 : (q0.filter (fun x => !decide (x.2 ≤ to))).length ≤ 64 := by have := List.length_filter_le (fun x => !decide (x.2 ≤ to)) q0; omega
 have h0 : q0.length ≤ 200 := by omega
 have g0' : (q0.filter (fun x => !decide (x.2 ≤ to))).length ≤ 200 := by omega
 have f1 : (q1.filter (fun x => decide (x.2 ≤ to))).length ≤ 64 := by have := List.length_filter_le (fun x => decide (x.2 ≤ to)) q1; omega
 have g1 : (q1.filter (fun x => !decide (x.2 ≤ to))).length ≤ 64 := by have := List.length_filter_le (fun x => !decide (x.2 ≤ to)) q1; omega
 have h1 : q1.length ≤ 200 := by omega
 have g1' : (q1.filter (fun x => !decide (x.2 ≤ to))).length ≤ 200 := by omega
 have f2 : (q2.filter (fun x => decide (x.2 ≤ to))).length ≤ 64 := by have := List.length_filter_le (fun x => decide (x.2 ≤ to)) q2; omega
 have g2 : (q2.filter (fun x => !decide (x.2 ≤ to))).length ≤ 64 := by have := List.length_filter_le (fun x => !decide (x.2 ≤ to)) q2; omega
 have h2 : q2.length ≤ 200 := by omega
 have g2' : (q2.filter (fun x => !decide (x.2 ≤ to))).length ≤ 200 := by omega
 have f3 : (q3.filter (fun x => decide (x.2 ≤ to))).length ≤ 64 := by have := List.length_filter_le (fun x => decide (x.2 ≤ to)) q3; omega
 have g3 : (q3.filter (fun x => !decide (x.2 ≤ to))).length ≤ 64 := by have := List.length_filter_le (fun x => !decide (x.2 ≤ to)) q3; omega
 have h3 : q3.length ≤ 200 := by omega
 have g3' : (q3.filter (fun x => !decide (x.2 ≤ to))).length ≤ 200 := by omega
 have f4 : (q4.filter (fun x => decide (x.2 ≤ to))).length ≤ 64 := by have := List.length_filter_le (fun x => decide (x.2 ≤ to)) q4; omega
 have g4 : (q4.filter (fun x => !decide (x.2 ≤ to))).length ≤ 64 := by have := List.length_filter_le (fun x => !decide (x.2 ≤ to)) q4; omega
 have h4 : q4.length ≤ 200 := by omega
 have g4' : (q4.filter (fun x => !decide (x.2 ≤ to))).length ≤ 200 := by omega
 have f5 : (q5.filter (fun x => decide (x.2 ≤ to))).length ≤ 64 := by have := List.length_filter_le (fun x => decide (x.2 ≤ to)) q5; omega
 have g5 : (q5.filter (fun x => !decide (x.2 ≤ to))).length ≤ 64 := by have := List.length_filter_le (fun x => !decide (x.2 ≤ to)) q5; omega
 have h5 : q5.length ≤ 200 := by omega
 have g5' : (q5.filter (fun x => !decide (x.2 ≤ to))).length ≤ 200 := by omega
 have f6 : (q6.filter (fun x => decide (x.2 ≤ to))).length ≤ 64 := by have := List.length_filter_le (fun x => decide (x.2 ≤ to)) q6; omega
 have g6 : (q6.filter (fun x => !decide (x.2 ≤ to))).length ≤ 64 := by have := List.length_filter_le (fun x => !decide (x.2 ≤ to)) q6; omega
 have h6 : q6.length ≤ 200 := by omega
 have g6' : (q6.filter (fun x => !decide (x.2 ≤ to))).length ≤ 200 := by omega
 have f7 : (q7.filter (fun x => decide (x.2 ≤ to))).length ≤ 64 := by have := List.length_filter_le (fun x => decide (x.2 ≤ to)) q7; omega
 have g7 : (q7.filter (fun x => !decide (x.2 ≤ to))).length ≤ 64 := by have := List.length_filter_le (fun x => !decide (x.2 ≤ to)) q7; omega
 have h7 : q7.length ≤ 200 := by omega
 have g7' : (q7.filter (fun x => !decide (x.2 ≤ to))).length ≤ 200 := by omega
 have a0 : (q0.filter (fun x => decide (x.2 ≤ to))).length ≤ 700 := by omega
 have b0 : (q0.filter (fun x => !decide (x.2 ≤ to))).length ≤ 700 := by omega
 have a1 : (q0.filter (fun x => decide (x.2 ≤ to)) ++ q1.filter (fun x => decide (x.2 ≤ to))).length ≤ 700 := by simp only [List.length_append]; omega
 have b1 : (q0.filter (fun x => !decide (x.2 ≤ to)) ++ q1.filter (fun x => !decide (x.2 ≤ to))).length ≤ 700 := by simp only [List.length_append]; omega
 have a2 : (q0.filter (fun x => decide (x.2 ≤ to)) ++ q1.filter (fun x => decide (x.2 ≤ to)) ++ q2.filter (fun x => decide (x.2 ≤ to))).length ≤ 700 := by simp only [List.length_append]; omega
 have b2 : (q0.filter (fun x => !decide (x.2 ≤ to)) ++ q1.filter (fun x => !decide (x.2 ≤ to)) ++ q2.filter (fun x => !decide (x.2 ≤ to))).length ≤ 700 := by simp only [List.length_append]; omega
 have a3 : (q0.filter (fun x => decide (x.2 ≤ to)) ++ q1.filter (fun x => decide (x.2 ≤ to)) ++ q2.filter (fun x => decide (x.2 ≤ to)) ++ q3.filter (fun x => decide (x.2 ≤ to))).length ≤ 700 := by simp only [List.length_append]; omega
 have b3 : (q0.filter (fun x => !decide (x.2 ≤ to)) ++ q1.filter (fun x => !decide (x.2 ≤ to)) ++ q2.filter (fun x => !decide (x.2 ≤ to)) ++ q3.filter (fun x => !decide (x.2 ≤ to))).length ≤ 700 := by simp only [List.length_append]; omega
 have a4 : (q0.filter (fun x => decide (x.2 ≤ to)) ++ q1.filter (fun x => decide (x.2 ≤ to)) ++ q2.filter (fun x => decide (x.2 ≤ to)) ++ q3.filter (fun x => decide (x.2 ≤ to)) ++ q4.filter (fun x => decide (x.2 ≤ to))).length ≤ 700 := by simp only [List.length_append]; omega
 have b4 : (q0.filter (fun x => !decide (x.2 ≤ to)) ++ q1.filter (fun x => !decide (x.2 ≤ to)) ++ q2.filter (fun x => !decide (x.2 ≤ to)) ++ q3.filter (fun x => !decide (x.2 ≤ to)) ++ q4.filter (fun x => !decide (x.2 ≤ to))).length ≤ 700 := by simp only [List.length_append]; omega
 have a5 : (q0.filter (fun x => decide (x.2 ≤ to)) ++ q1.filter (fun x => decide (x.2 ≤ to)) ++ q2.filter (fun x => decide (x.2 ≤ to)) ++ q3.filter (fun x => decide (x.2 ≤ to)) ++ q4.filter (fun x => decide (x.2 ≤ to)) ++ q5.filter (fun x => decide (x.2 ≤ to))).length ≤ 700 := by simp only [List.length_append]; omega
 have b5 : (q0.filter (fun x => !decide (x.2 ≤ to)) ++ q1.filter (fun x => !decide (x.2 ≤ to)) ++ q2.filter (fun x => !decide (x.2 ≤ to)) ++ q3.filter (fun x => !decide (x.2 ≤ to)) ++ q4.filter (fun x => !decide (x.2 ≤ to)) ++ q5.filter (fun x => !decide (x.2 ≤ to))).length ≤ 700 := by simp only [List.length_append]; omega
 have a6 : (q0.filter (fun x => decide (x.2 ≤ to)) ++ q1.filter (fun x => decide (x.2 ≤ to)) ++ q2.filter (fun x => decide (x.2 ≤ to)) ++ q3.filter (fun x => decide (x.2 ≤ to)) ++ q4.filter (fun x => decide (x.2 ≤ to)) ++ q5.filter (fun x => decide (x.2 ≤ to)) ++ q6.filter (fun x => decide (x.2 ≤ to))).length ≤ 700 := by simp only [List.length_append]; omega
 have b6 : (q0.filter (fun x => !decide (x.2 ≤ to)) ++ q1.filter (fun x => !decide (x.2 ≤ to)) ++ q2.filter (fun x => !decide (x.2 ≤ to)) ++ q3.filter (fun x => !decide (x.2 ≤ to)) ++ q4.filter (fun x => !decide (x.2 ≤ to)) ++ q5.filter (fun x => !decide (x.2 ≤ to)) ++ q6.filter (fun x => !decide (x.2 ≤ to))).length ≤ 700 := by simp only [List.length_append]; omega
 have a7 : (q0.filter (fun x => decide (x.2 ≤ to)) ++ q1.filter (fun x => decide (x.2 ≤ to)) ++ q2.filter (fun x => decide (x.2 ≤ to)) ++ q3.filter (fun x => decide (x.2 ≤ to)) ++ q4.filter (fun x => decide (x.2 ≤ to)) ++ q5.filter (fun x => decide (x.2 ≤ to)) ++ q6.filter (fun x => decide (x.2 ≤ to)) ++ q7.filter (fun x => decide (x.2 ≤ to))).length ≤ 1000 := by simp only [List.length_append]; omega
 have b7 : (q0.filter (fun x => !decide (x.2 ≤ to)) ++ q1.filter (fun x => !decide (x.2 ≤ to)) ++ q2.filter (fun x => !decide (x.2 ≤ to)) ++ q3.filter (fun x => !decide (x.2 ≤ to)) ++ q4.filter (fun x => !decide (x.2 ≤ to)) ++ q5.filter (fun x => !decide (x.2 ≤ to)) ++ q6.filter (fun x => !decide (x.2 ≤ to)) ++ q7.filter (fun x => !decide (x.2 ≤ to))).length ≤ 1000 := by simp only [List.length_append]; omega
 simp only [Option.bind_some, w69_111_7_0, w69_111_7_1, w69_111_7_2, w69_111_7_3, w69_111_7_4, w69_111_7_5, w69_111_7_6, w69_111_7_7, w69_111_7_8, w69_111_7_9, w69_111_7_10, w69_111_7_11, w69_111_7_12, w69_111_7_13, w69_111_7_14, w69_111_7_15, f136_eq, ft, ff, Bool.not_true, List.nil_append, List.append_nil, z0, h0, g0', h1, g1', h2, g2', h3, g3', h4, g4', h5, g5', h6, g6', h7, g7', a0, b0, a1, b1, a2, b2, a3, b3, a4, b4, a5, b5, a6, b6, fSortT_eq _ a7, fSortT_eq _ b7, sortT_len, beq_self, Bool.and_self, cond_true, decide_true]
 rw [sortT_of (W.srt.filter _) pF, sortT_of (W.srt.filter _) pN]
end Go.Proofs.Zz
