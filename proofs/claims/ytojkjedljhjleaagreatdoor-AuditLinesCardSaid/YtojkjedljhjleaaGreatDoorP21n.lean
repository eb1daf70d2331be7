/- Plain laws of chapter 21: a line, told and read. -/
import Derived.Test.YtojkjedljhjleaaGreatDoorP21m
namespace Go.Proofs.Zz
open Go Go.Sy Go.Txt
set_option linter.unusedSimpArgs false
set_option linter.unusedVariables false

theorem nDig_le : ∀ (d k : Nat), k < 10 ^ (d + 1) → Lib.nDigits k ≤ d + 1
  | 0, k, h => by rw [Lib.nDigits_small (by simpa using h)]; exact Nat.le_refl _
  | d + 1, k, h => by
    by_cases hk : k < 10
    · rw [Lib.nDigits_small hk]; omega
    · rw [Lib.nDigits_big hk]
      have := nDig_le d (k / 10) (by rw [Nat.pow_succ] at h; omega)
      omega

theorem dec_le10 {k : Nat} (h : k < 10000000000) : (dec k).length ≤ 10 := by
  have := nDig_le 9 k (by simpa using h)
  unfold dec
  rw [Lib.decDigits_length]; exact this

/-! a number of up to ten digits -/
theorem loop47 (s : ByteArray) (hz : (bs s).length ≤ 1 ∨ zr (bs s) = false) (h10 : (bs s).length ≤ 10) : ∀ (l : B) (i n fuel : Nat), (bs s).drop i = l → (∀ b ∈ l, isDig b = true) → n < 10 ^ i → l.length < fuel →
    iter fuel u47_3 ((s, ((n : Int), ((), ()))), (((s, i), ()), ())) = some (.inl ((s, (((l.foldl (fun n b => 10 * n + dval b) n : Nat) : Int), ())), ((), ())))
  | _, i, n, 0, _, _, _, hf => by omega
  | [], i, n, fuel + 1, hl, _, hn, hf => by
    have hs : ¬ i < s.size := by
      have := List.drop_eq_nil_iff.1 hl
      rw [bs_len] at this; omega
    refine it_out ?_
    show t47_3 s n s i = _
    unfold t47_3
    simp [hs]
  | b :: l, i, n, fuel + 1, hl, hd, hn, hf => by
    obtain ⟨hs, hg, hdr⟩ := get_at hl
    have hsz : 0 < s.size := by omega
    have hsz' : (0 : Int) < ((s.size : Nat) : Int) := by omega
    have hbb := isDig_iff.1 (hd b (by simp))
    have hdec := decode_low hl (by omega)
    have hi : i < 10 := by rw [bs_len] at h10; omega
    have h48 : ¬ (((Utf8.decode s i).1 : Nat) : Int) < 48 := by rw [hdec]; simp only; omega
    have h57 : ¬ (57 : Int) < (((Utf8.decode s i).1 : Nat) : Int) := by rw [hdec]; simp only; omega
    have hi' : ¬ (10 : Int) ≤ ((i : Nat) : Int) := by omega
    have hn10 : n < 10 ^ 9 := Nat.lt_of_lt_of_le hn (Nat.pow_le_pow_right (by omega) (by omega))
    have hw : IntKind.wrap .i64 ((IntKind.wrap .i64 (10 * (n : Int))) + (IntKind.wrap .i64 (IntKind.wrap .i32 ((((Utf8.decode s i).1 : Nat) : Int) - 48)))) = ((10 * n + dval b : Nat) : Int) := by
      have hv : (((Utf8.decode s i).1 : Nat) : Int) - 48 = (dval b : Int) := by rw [hdec]; unfold dval; simp only; omega
      have hd9 : dval b ≤ 9 := by unfold dval; omega
      rw [hv, w32 (by omega) (by omega), w64 (x := (dval b : Int)) (by omega) (by omega), w64 (x := 10 * (n : Int)) (by omega) (by omega), w64 (by omega) (by omega)]
      omega
    have hp1 : (Utf8.decode s i).2 = 1 := by rw [hdec]
    have hbound : 10 * n + dval b < 10 ^ (i + 1) := by
      have hd9 : dval b ≤ 9 := by unfold dval; omega
      rw [Nat.pow_succ]
      omega
    have ih := loop47 s hz h10 l (i + 1) (10 * n + dval b) fuel hdr (fun x hx => hd x (List.mem_cons_of_mem _ hx)) hbound (by simp only [List.length_cons] at hf; omega)
    rw [List.foldl_cons, ← ih]
    refine it_next ?_
    show t47_3 s n s i = _
    unfold t47_3
    by_cases hi0 : 0 < i
    · have hi0' : (0 : Int) < ((i : Nat) : Int) := by omega
      have hzz : zr (bs s) = false := by
        rcases hz with h | h
        · rw [bs_len] at h; omega
        · exact h
      have hb0 := bt_zero hsz
      simp only [hs, h48, h57, hi', hi0', hsz', hb0, hzz, hw, hp1, decide_true, decide_false, cond_true, cond_false]
    · have hi0' : ¬ (0 : Int) < ((i : Nat) : Int) := by omega
      simp only [hs, h48, h57, hi', hi0', hw, hp1, decide_true, decide_false, cond_true, cond_false]

theorem f47_dec (k : Nat) (h : k < 10000000000) : f47 (sb (dec k)) = some ((k : Int), (true, ())) := by
  obtain ⟨⟨h1, h2, h3⟩, h4, _⟩ := decDigits_num k
  have hlen := dec_le10 h
  unfold f47
  have := loop47 (sb (dec k)) (by
    rw [bs_sb]
    by_cases hl : (dec k).length ≤ 1
    · exact .inl hl
    · exact .inr (zr_false.2 (h3 (by unfold dec at hl; omega)))) (by rw [bs_sb]; exact hlen) (dec k) 0 0 11 (by rw [bs_sb]; rfl) h2 (by decide) (by omega)
  rw [show (((0 : Nat) : Int)) = 0 from rfl] at this
  rw [it_mono (show 11 ≤ big from Nat.le_of_ble_eq_true rfl) this]
  simp only [Option.bind_some, str_eq, bs_sb]
  rw [show bs (⟨#[]⟩ : ByteArray) = [] from rfl, decide_eq_false (show ¬ dec k = [] from h1)]
  rw [show ((dec k).foldl (fun n b => 10 * n + dval b) 0 : Nat) = k from h4]
  rfl

theorem f47_dash : ∃ r, f47 (sb [45]) = some r := ⟨(0, (false, ())), by kernel_rfl⟩

section
variable {a b c d e f g h : Int}

/-- what happened may be told -/
noncomputable def toldB (a b c d e f g h : Int) (x : LT) : Bool :=
  isSub a b c d e f g h x.1 && (isBlk a b c d e f g h x.2.1 x.2.2.1 && (decide (0 ≤ x.2.2.2.1) && (decide (x.2.2.2.1 ≤ 1073741824) && (decide (x.2.2.2.2 = -1) || (decide (x.2.2.2.1 ≤ x.2.2.2.2) && decide (x.2.2.2.2 ≤ 1073741824))))))

theorem f39_eq (x : LT) : f39 a b c d e f g h x.1 x.2.1 x.2.2.1 x.2.2.2.1 x.2.2.2.2 = some (if isBlk a b c d e f g h x.2.1 x.2.2.1 then blkI f g h x.2.1 x.2.2.1 else (0, (0, 0)), (toldB a b c d e f g h x, ())) := by
  unfold f39 toldB
  rw [f21_eq', f23_eq']
  simp only [Option.bind_some]
  cases isSub a b c d e f g h x.1 <;> cases isBlk a b c d e f g h x.2.1 x.2.2.1 <;> cases decide (0 ≤ x.2.2.2.1) <;> cases decide (x.2.2.2.1 ≤ 1073741824) <;> cases decide (x.2.2.2.2 = -1) <;> cases decide (x.2.2.2.1 ≤ x.2.2.2.2) <;> simp only [Bool.and_true, Bool.and_false, Bool.or_true, Bool.or_false, Bool.true_and, Bool.false_and, Bool.true_or, Bool.false_or, cond_true, cond_false] <;> rfl

abbrev untilB (u : Int) : B := if u = -1 then [45] else dec u.toNat

/-- a line's words -/
def wordsL (a c f g h : Int) (x : LT) : List B :=
  [text4 (a + x.1).toNat, text4 (c + x.2.1).toNat, dec (blkI f g h x.2.1 x.2.2.1).2.1.toNat ++ 45 :: dec (blkI f g h x.2.1 x.2.2.1).2.2.toNat, dec x.2.2.2.1.toNat, untilB x.2.2.2.2]

noncomputable def lineL (a b c d e f g h : Int) (x : LT) : B := if toldB a b c d e f g h x = true then Lib.join (wordsL a c f g h x) [32] else []

/-- what is known of what may be told -/
structure Told (a b c d e f g h : Int) (x : LT) : Prop where
  sub : isSub a b c d e f g h x.1 = true
  blk : isBlk a b c d e f g h x.2.1 x.2.2.1 = true
  fr0 : 0 ≤ x.2.2.2.1
  fr1 : x.2.2.2.1 ≤ 1073741824
  un : x.2.2.2.2 = -1 ∨ (0 ≤ x.2.2.2.2 ∧ x.2.2.2.2 ≤ 1073741824)
  s0 : 0 ≤ x.1
  s1 : x.1 < szI b
  p1 : MayP a b
  t0 : 0 ≤ x.2.1
  t1 : x.2.1 < szI d
  p2 : MayP c d
  lo0 : 0 ≤ (blkI f g h x.2.1 x.2.2.1).2.1
  lo1 : (blkI f g h x.2.1 x.2.2.1).2.1 ≤ (blkI f g h x.2.1 x.2.2.1).2.2
  hi : (blkI f g h x.2.1 x.2.2.1).2.2 ≤ 65535

theorem told_spec {x : LT} (ht : toldB a b c d e f g h x = true) : Told a b c d e f g h x := by
  unfold toldB at ht
  simp only [Bool.and_eq_true, Bool.or_eq_true, decide_eq_true_eq] at ht
  obtain ⟨h1, h2, h3, h4, h5⟩ := ht
  have hs := h1
  unfold isSub at hs
  have hb := h2
  unfold isBlk at hb
  simp only [Bool.and_eq_true, decide_eq_true_eq] at hs hb
  have F := fitB_spec hs.1
  have hx1 := F.x1
  have hy1 := F.y1
  have ok := blk_ok h2
  unfold SpanOK at ok
  have := F.lo1
  have := F.hi
  have m1 : MayP a b := by
    by_cases hm : MayP a b
    · exact hm
    · unfold sizeI at hx1; rw [if_neg hm] at hx1; omega
  have m2 : MayP c d := by
    by_cases hm : MayP c d
    · exact hm
    · unfold sizeI at hy1; rw [if_neg hm] at hy1; omega
  have e1 : sizeI a b = szI b := by unfold sizeI; rw [if_pos m1]
  have e2 : sizeI c d = szI d := by unfold sizeI; rw [if_pos m2]
  exact ⟨h1, h2, h3, h4, by omega, hs.2.1, by omega, m1, hb.2.1.1, by omega, m2, by omega, by omega, by omega⟩

theorem words_free {x : LT} : ∀ w ∈ wordsL a c f g h x, (32 : UInt8) ∉ w := by
  have hd : ∀ k, (32 : UInt8) ∉ dec k := fun k => dec_free (by decide) k
  have ht : ∀ n, (32 : UInt8) ∉ text4 n := by
    intro n hm
    rw [text4_eq] at hm
    simp only [List.mem_append, List.mem_cons] at hm
    rcases hm with hm | hm | hm | hm | hm | hm | hm
    all_goals first | exact hd _ hm | exact absurd hm (by decide)
  intro w hw
  unfold wordsL at hw
  simp only [List.mem_cons, List.not_mem_nil, or_false] at hw
  rcases hw with rfl | rfl | rfl | rfl | rfl
  · exact ht _
  · exact ht _
  · intro hm
    simp only [List.mem_append, List.mem_cons] at hm
    rcases hm with hm | hm | hm
    · exact hd _ hm
    · exact absurd hm (by decide)
    · exact hd _ hm
  · exact hd _
  · unfold untilB
    split
    · decide
    · exact hd _

theorem join5 (p q r s t : B) : Lib.join [p, q, r, s, t] [32] = p ++ 32 :: (q ++ 32 :: (r ++ 32 :: (s ++ 32 :: t))) := by
  rw [jn_cons _ _ (by simp), jn_cons _ _ (by simp), jn_cons _ _ (by simp), jn_cons _ _ (by simp), Lib.join_one]

theorem line_len {x : LT} (T : Told a b c d e f g h x) : 1 ≤ (Lib.join (wordsL a c f g h x) [32]).length ∧ (Lib.join (wordsL a c f g h x) [32]).length ≤ 100 := by
  have r1 := may_room T.p1
  have r2 := may_room T.p2
  have := T.p1.2.2.1
  have := T.p2.2.2.1
  have := T.s0; have := T.s1; have := T.t0; have := T.t1; have := T.lo0; have := T.lo1; have := T.hi; have := T.fr0; have := T.fr1
  have l1 := text4_len (a + x.1).toNat (by omega)
  have l2 := text4_len (c + x.2.1).toNat (by omega)
  have l3 := dec_le10 (k := (blkI f g h x.2.1 x.2.2.1).2.1.toNat) (by omega)
  have l4 := dec_le10 (k := (blkI f g h x.2.1 x.2.2.1).2.2.toNat) (by omega)
  have l5 := dec_le10 (k := x.2.2.2.1.toNat) (by omega)
  have l6 : (untilB x.2.2.2.2).length ≤ 10 := by
    unfold untilB
    split
    · decide
    · have := T.un
      exact dec_le10 (by omega)
  unfold wordsL
  rw [join5]
  simp only [List.length_append, List.length_cons]
  omega

theorem line_nil (x : LT) : lineL a b c d e f g h x = [] ↔ toldB a b c d e f g h x = false := by
  unfold lineL
  cases ht : toldB a b c d e f g h x with
  | false => simp
  | true =>
    have := (line_len (told_spec ht)).1
    simp only [if_true, Bool.true_eq_false, iff_false]
    intro he
    rw [he] at this
    simp at this

theorem int_nat {x : Int} (h : 0 ≤ x) : x = ((x.toNat : Nat) : Int) := by omega
theorem sb_app (l r : B) : sb l ++ sb r = sb (l ++ r) := by
  unfold sb
  apply ByteArray.ext
  simp

theorem f16_eq (x : LT) : f16 a b c d e f g h x.1 x.2.1 x.2.2.1 x.2.2.2.1 x.2.2.2.2 = some (sb (lineL a b c d e f g h x), ()) := by
  unfold f16
  rw [f39_eq]
  simp only [Option.bind_some]
  unfold lineL
  cases ht : toldB a b c d e f g h x with
  | false => rfl
  | true =>
  have T := told_spec ht
  have r1 := may_room T.p1
  have r2 := may_room T.p2
  have := T.p1.2.2.1
  have := T.p2.2.2.1
  have := T.s0; have := T.s1; have := T.t0; have := T.t1; have := T.lo0; have := T.lo1; have := T.hi; have := T.fr0; have := T.fr1
  have z1 : sizeI a b = szI b := by unfold sizeI; rw [if_pos T.p1]
  have z2 : sizeI c d = szI d := by unfold sizeI; rw [if_pos T.p2]
  have hjl := (line_len T).2
  simp only [T.blk, if_true, Bool.not_true, cond_false, f40_eq, Option.bind_some]
  rw [if_pos ⟨T.s0, by omega⟩, if_pos ⟨T.t0, by omega⟩]
  simp only
  have i1 : f43 (a + x.1) = some (sb (text4 (a + x.1).toNat), ()) := by rw [f43_eq, textI, if_pos (by omega)]
  have i2 : f43 (c + x.2.1) = some (sb (text4 (c + x.2.1).toNat), ()) := by rw [f43_eq, textI, if_pos (by omega)]
  have i3 : fItoa (blkI f g h x.2.1 x.2.2.1).2.1 = some (sb (dec (blkI f g h x.2.1 x.2.2.1).2.1.toNat), ()) := by
    rw [show fItoa (blkI f g h x.2.1 x.2.2.1).2.1 = fItoa (((blkI f g h x.2.1 x.2.2.1).2.1.toNat : Nat) : Int) by rw [← int_nat T.lo0], fItoa_nat _ (by omega)]
  have i4 : fItoa (blkI f g h x.2.1 x.2.2.1).2.2 = some (sb (dec (blkI f g h x.2.1 x.2.2.1).2.2.toNat), ()) := by
    rw [show fItoa (blkI f g h x.2.1 x.2.2.1).2.2 = fItoa (((blkI f g h x.2.1 x.2.2.1).2.2.toNat : Nat) : Int) by rw [← int_nat (by omega)], fItoa_nat _ (by omega)]
  have i5 : fItoa x.2.2.2.1 = some (sb (dec x.2.2.2.1.toNat), ()) := by
    rw [show fItoa x.2.2.2.1 = fItoa ((x.2.2.2.1.toNat : Nat) : Int) by rw [← int_nat T.fr0], fItoa_nat _ (by omega)]
  have l3 := dec_le10 (k := (blkI f g h x.2.1 x.2.2.1).2.1.toNat) (by omega)
  have l4 := dec_le10 (k := (blkI f g h x.2.1 x.2.2.1).2.2.toNat) (by omega)
  have ej : fJoin [sb (text4 (a + x.1).toNat), sb (text4 (c + x.2.1).toNat), sb (dec (blkI f g h x.2.1 x.2.2.1).2.1.toNat) ++ (⟨#[45]⟩ : ByteArray) ++ sb (dec (blkI f g h x.2.1 x.2.2.1).2.2.toNat), sb (dec x.2.2.2.1.toNat), sb (untilB x.2.2.2.2)] (⟨#[32]⟩ : ByteArray) = some (sb (Lib.join (wordsL a c f g h x) [32]), ()) := by
    have := fJoin_sb (wordsL a c f g h x) 32 (by simp [wordsL]) (by omega)
    rw [show (wordsL a c f g h x).map sb = _ from rfl] at this
    rw [← this, show (⟨#[45]⟩ : ByteArray) = sb [45] from rfl, sb_app, sb_app, List.append_assoc]
    rfl
  have sz1 : (!(decide (9223372036854775807 < ((((sb (dec (blkI f g h x.2.1 x.2.2.1).2.1.toNat)).size + 1) : Nat) : Int)))) = true := by
    rw [sb_size, decide_eq_false (by omega)]; rfl
  have sz2 : (!(decide (9223372036854775807 < ((((sb (dec (blkI f g h x.2.1 x.2.2.1).2.1.toNat) ++ (⟨#[45]⟩ : ByteArray)).size + (sb (dec (blkI f g h x.2.1 x.2.2.1).2.2.toNat)).size) : Nat) : Int)))) = true := by
    rw [show (⟨#[45]⟩ : ByteArray) = sb [45] from rfl, sb_app, sb_size, sb_size, decide_eq_false (by simp only [List.length_append, List.length_cons, List.length_nil]; omega)]; rfl
  rw [i1, i2, i3, i4, i5]
  by_cases hu : x.2.2.2.2 = -1
  · rw [decide_eq_true hu]
    have eu : untilB x.2.2.2.2 = [45] := by unfold untilB; rw [if_pos hu]
    rw [eu] at ej
    simp only [Bool.not_true, cond_false, Option.bind_some, sz1, sz2, cond_true]
    rw [show (⟨#[45]⟩ : ByteArray) = sb [45] from rfl] at ej ⊢
    rw [ej]; rfl
  · rw [decide_eq_false hu]
    have hu2 := T.un
    have i6 : fItoa x.2.2.2.2 = some (sb (dec x.2.2.2.2.toNat), ()) := by
      rw [show fItoa x.2.2.2.2 = fItoa ((x.2.2.2.2.toNat : Nat) : Int) by rw [← int_nat (by omega)], fItoa_nat _ (by omega)]
    have eu : untilB x.2.2.2.2 = dec x.2.2.2.2.toNat := by unfold untilB; rw [if_neg hu]
    rw [eu] at ej
    simp only [Bool.not_false, cond_true, i6, Option.bind_some, sz1, sz2]
    rw [ej]; rfl

/-- what is told is read as it -/
theorem f17_line {x : LT} (ht : toldB a b c d e f g h x = true) : f17 a b c d e f g h (sb (lineL a b c d e f g h x)) = some (x, (true, ())) := by
  have T := told_spec ht
  have r1 := may_room T.p1
  have r2 := may_room T.p2
  have := T.p1.2.2.1
  have := T.p2.2.2.1
  have := T.s0; have := T.s1; have := T.t0; have := T.t1; have := T.lo0; have := T.lo1; have := T.hi; have := T.fr0; have := T.fr1
  have hjl := (line_len T).2
  have el : lineL a b c d e f g h x = Lib.join (wordsL a c f g h x) [32] := by unfold lineL; rw [if_pos ht]
  have hsplit : splitL (sb (lineL a b c d e f g h x)) ⟨#[32]⟩ = (wordsL a c f g h x).map sb := by
    have h1 := split_bs (sb (lineL a b c d e f g h x)) 32
    rw [bs_sb, el, spl_jn (by simp [wordsL]) words_free] at h1
    rw [← h1, List.map_map, ← el]
    have : (sb ∘ bs) = (id : ByteArray → ByteArray) := funext fun s => sb_bs s
    rw [this, List.map_id]
  have i16 := f16_eq (a := a) (b := b) (c := c) (d := d) (e := e) (f := f) (g := g) (h := h) x
  have hlen : (lineL a b c d e f g h x).length ≤ 100 := by rw [el]; exact hjl
  generalize lineL a b c d e f g h x = ln at hsplit i16 hlen ⊢
  unfold f17 fSplit
  rw [ltN_true (by rw [sb_size]; omega), show Nat.ble 1 (⟨#[32]⟩ : ByteArray).size = true from rfl]
  simp only [Bool.and_self, cond_true, Option.bind_some]
  rw [hsplit]
  have a1 : f45 (sb (text4 (a + x.1).toNat)) = some (a + x.1, (true, ())) := by
    rw [f45_eq _ (by rw [sb_size]; have := text4_len (a + x.1).toNat (by omega); omega), bs_sb, addr_text _ (by omega)]
    simp only [outA]
    rw [← int_nat (by omega)]
  have a2 : f45 (sb (text4 (c + x.2.1).toNat)) = some (c + x.2.1, (true, ())) := by
    rw [f45_eq _ (by rw [sb_size]; have := text4_len (c + x.2.1).toNat (by omega); omega), bs_sb, addr_text _ (by omega)]
    simp only [outA]
    rw [← int_nat (by omega)]
  have l3 := dec_le10 (k := (blkI f g h x.2.1 x.2.2.1).2.1.toNat) (by omega)
  have l4 := dec_le10 (k := (blkI f g h x.2.1 x.2.2.1).2.2.toNat) (by omega)
  obtain ⟨cr, a3⟩ : ∃ cr, fCut (sb (dec (blkI f g h x.2.1 x.2.2.1).2.1.toNat ++ 45 :: dec (blkI f g h x.2.1 x.2.2.1).2.2.toNat)) (⟨#[45]⟩ : ByteArray) = some (sb (dec (blkI f g h x.2.1 x.2.2.1).2.1.toNat), cr) := by
    unfold fCut
    rw [ltN_true (by rw [sb_size, List.length_append, List.length_cons]; omega)]
    simp only [cond_true]
    refine ⟨((cutB (sb (dec (blkI f g h x.2.1 x.2.2.1).2.1.toNat ++ 45 :: dec (blkI f g h x.2.1 x.2.2.1).2.2.toNat)) ⟨#[45]⟩).2.1, ((cutB (sb (dec (blkI f g h x.2.1 x.2.2.1).2.1.toNat ++ 45 :: dec (blkI f g h x.2.1 x.2.2.1).2.2.toNat)) ⟨#[45]⟩).2.2, ())), ?_⟩
    have e1 : (cutB (sb (dec (blkI f g h x.2.1 x.2.2.1).2.1.toNat ++ 45 :: dec (blkI f g h x.2.1 x.2.2.1).2.2.toNat)) ⟨#[45]⟩).1 = sb (dec (blkI f g h x.2.1 x.2.2.1).2.1.toNat) := by
      show sb (Lib.cut (bs (sb _)) [45]).1 = _
      rw [bs_sb, cut_at, spl_app _ (dec_free (by decide) _)]
      cases hh : spl 45 (dec (blkI f g h x.2.1 x.2.2.1).2.2.toNat) with
      | nil => exact absurd hh (spl_ne _ _)
      | cons y r => rfl
    rw [← e1]
  have a4 : f47 (sb (dec (blkI f g h x.2.1 x.2.2.1).2.1.toNat)) = some ((blkI f g h x.2.1 x.2.2.1).2.1, (true, ())) := by
    rw [f47_dec _ (by omega), ← int_nat T.lo0]
  have a5 : f47 (sb (dec x.2.2.2.1.toNat)) = some (x.2.2.2.1, (true, ())) := by rw [f47_dec _ (by omega), ← int_nat T.fr0]
  have x1 : f48 a b (a + x.1) = some (x.1, ()) := by
    rw [f48_eq, indexI, if_pos ⟨T.p1, by omega, by omega⟩]
    congr 2
    omega
  have x2 : f48 c d (c + x.2.1) = some (x.2.1, ()) := by
    rw [f48_eq, indexI, if_pos ⟨T.p2, by omega, by omega⟩]
    congr 2
    omega
  have x3 : f26 a b c d e f g h x.2.1 (blkI f g h x.2.1 x.2.2.1).2.1 = some (x.2.2.1, ()) := by
    rw [f26_eq, (which_blk T.blk (Int.le_refl _) T.lo1).1]
  obtain ⟨y5, a6⟩ : ∃ r, f47 (sb (untilB x.2.2.2.2)) = some r := by
    unfold untilB
    split
    · exact f47_dash
    · have := T.un
      exact ⟨_, f47_dec _ (by omega)⟩
  have rds : ∀ p q r s t : ByteArray, rd .str [p, q, r, s, t] 0 = p ∧ rd .str [p, q, r, s, t] 1 = q ∧ rd .str [p, q, r, s, t] 2 = r ∧ rd .str [p, q, r, s, t] 3 = s ∧ rd .str [p, q, r, s, t] 4 = t := fun _ _ _ _ _ => ⟨rfl, rfl, rfl, rfl, rfl⟩
  have emap : (wordsL a c f g h x).map sb = [sb (text4 (a + x.1).toNat), sb (text4 (c + x.2.1).toNat), sb (dec (blkI f g h x.2.1 x.2.2.1).2.1.toNat ++ 45 :: dec (blkI f g h x.2.1 x.2.2.1).2.2.toNat), sb (dec x.2.2.2.1.toNat), sb (untilB x.2.2.2.2)] := rfl
  rw [emap]
  simp only [rds, List.length_cons, List.length_nil]
  simp only [show (decide ((((0 + 1 + 1 + 1 + 1 + 1 : Nat)) : Int) = 5)) = true from rfl, show (decide (0 < (((0 + 1 + 1 + 1 + 1 + 1 : Nat)) : Int))) = true from rfl, show (decide (1 < (((0 + 1 + 1 + 1 + 1 + 1 : Nat)) : Int))) = true from rfl, show (decide (2 < (((0 + 1 + 1 + 1 + 1 + 1 : Nat)) : Int))) = true from rfl, show (decide (3 < (((0 + 1 + 1 + 1 + 1 + 1 : Nat)) : Int))) = true from rfl, show (decide (4 < (((0 + 1 + 1 + 1 + 1 + 1 : Nat)) : Int))) = true from rfl,
    show (decide (0 < 0 + 1 + 1 + 1 + 1 + 1)) = true from rfl, show (decide (1 < 0 + 1 + 1 + 1 + 1 + 1)) = true from rfl, show (decide (2 < 0 + 1 + 1 + 1 + 1 + 1)) = true from rfl, show (decide (3 < 0 + 1 + 1 + 1 + 1 + 1)) = true from rfl, show (decide (4 < 0 + 1 + 1 + 1 + 1 + 1)) = true from rfl,
    Bool.not_true, cond_false, cond_true, a1, a2, a3, a4, a5, a6, Option.bind_some, x1, x2, x3, str_eq, bs_sb, i16]
  rw [show bs (⟨#[45]⟩ : ByteArray) = [45] from rfl]
  by_cases hu : x.2.2.2.2 = -1
  · have eu : untilB x.2.2.2.2 = [45] := by unfold untilB; rw [if_pos hu]
    rw [hu] at i16
    rw [eu, decide_eq_true rfl, i16]
    simp only [cond_true, Option.bind_some, str_eq, bs_sb, decide_true, Bool.not_true, cond_false]
    rw [← hu]
  · have hu2 := T.un
    have eu : untilB x.2.2.2.2 = dec x.2.2.2.2.toNat := by unfold untilB; rw [if_neg hu]
    rw [eu] at a6 ⊢
    have hne : ¬ dec x.2.2.2.2.toNat = [45] := by
      intro he
      have := (decDigits_num x.2.2.2.2.toNat).1.2.1 45 (by rw [show Lib.decDigits x.2.2.2.2.toNat = [45] from he]; simp)
      exact absurd this (by decide)
    rw [f47_dec _ (by omega), ← int_nat (by omega)] at a6
    obtain rfl : (x.2.2.2.2, (true, ())) = y5 := Option.some.inj a6
    rw [decide_eq_false hne]
    simp only [cond_false, Bool.not_true, i16, Option.bind_some, str_eq, bs_sb, decide_true]
end
end Go.Proofs.Zz
