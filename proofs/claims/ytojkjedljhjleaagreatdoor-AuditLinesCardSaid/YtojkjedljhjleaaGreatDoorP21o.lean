/- Plain laws of chapter 21: AuditLines. -/
import Derived.Test.YtojkjedljhjleaaGreatDoorP21n
namespace Go.Proofs.Zz
open Go Go.Sy Go.Txt
set_option linter.unusedSimpArgs false
set_option linter.unusedVariables false

section
variable {a b c d e f g h : Int}

/-- the lines of what happened -/
noncomputable def lns (a b c d e f g h : Int) (v : List LT) : List B := (v.map (lineL a b c d e f g h)).filter fun l => decide (l ≠ [])

theorem lns_succ (v : List LT) {j : Nat} (hj : j < v.length) : lns a b c d e f g h (v.take (j + 1)) = lns a b c d e f g h (v.take j) ++ (if lineL a b c d e f g h v[j] = [] then [] else [lineL a b c d e f g h v[j]]) := by
  unfold lns
  rw [List.take_succ_eq_append_getElem hj, List.map_append, List.filter_append]
  congr 1
  by_cases hn : lineL a b c d e f g h v[j] = []
  · rw [if_pos hn]; simp [hn]
  · rw [if_neg hn]; simp [hn]

theorem lns_len (v : List LT) : (lns a b c d e f g h v).length ≤ v.length := by
  unfold lns
  exact Nat.le_trans (List.length_filter_le _ _) (by simp)

theorem lns_at (v : List LT) {j : Nat} (hj : j < v.length) (hn : lineL a b c d e f g h v[j] ≠ []) :
    ∃ hk : (lns a b c d e f g h (v.take j)).length < (lns a b c d e f g h v).length, (lns a b c d e f g h v)[(lns a b c d e f g h (v.take j)).length] = lineL a b c d e f g h v[j] := by
  have e1 : lns a b c d e f g h v = lns a b c d e f g h (v.take j) ++ (lineL a b c d e f g h v[j] :: lns a b c d e f g h (v.drop (j + 1))) := by
    have : v = v.take j ++ v[j] :: v.drop (j + 1) := by simp
    unfold lns
    conv => lhs; rw [this]
    rw [List.map_append, List.filter_append, List.map_cons, List.filter_cons, if_pos (by simp [hn])]
  refine ⟨by rw [e1, List.length_append, List.length_cons]; omega, ?_⟩
  have : (lns a b c d e f g h v)[(lns a b c d e f g h (v.take j)).length]? = some (lineL a b c d e f g h v[j]) := by
    rw [e1, List.getElem?_append_right (Nat.le_refl _)]; simp
  exact (List.getElem?_eq_some_iff.1 this).2

theorem nil_eq (l : B) : ((sb l).toList == (⟨#[]⟩ : ByteArray).toList) = decide (l = []) := by
  rw [str_eq, bs_sb]; rfl

theorem f15_eq (v : List LT) (hv : v.length ≤ 100) : f15 a b c d e f g h v = some ((lns a b c d e f g h v).map sb, ()) := by
  unfold f15
  have := it_all (u := u15_78_1_0) (fun j => (((), ((), (v, (((v.length : Nat) : Int), (((j : Nat) : Int), ()))))), (((a, (b, (c, (d, (e, (f, (g, (h, ())))))))), (((), ()), ((a, (b, (c, (d, (e, (f, (g, (h, ())))))))), ((v, ()), (((), ((), ((), ((), ((), ((), ((), ((), ((), ((), ((), ((), ((), ((), ((), ((), ())))))))))))))))), ()))))), ((lns a b c d e f g h (v.take j)).map sb, ())))) (n := v.length)
    (y := ((), (((a, (b, (c, (d, (e, (f, (g, (h, ())))))))), (((), ()), ((a, (b, (c, (d, (e, (f, (g, (h, ())))))))), ((v, ()), (((), ((), ((), ((), ((), ((), ((), ((), ((), ((), ((), ((), ((), ((), ((), ((), ())))))))))))))))), ()))))), ((lns a b c d e f g h v).map sb, ()))))
    (fun j hj => by
      have hl := lns_len (a := a) (b := b) (c := c) (d := d) (e := e) (f := f) (g := g) (h := h) (v.take j)
      rw [List.length_take] at hl
      have hc : (decide ((((lns a b c d e f g h (v.take j)).map sb).length + 1) * 16 ≤ 140737488355328) && decide (((lns a b c d e f g h (v.take j)).map sb).length + 1 ≤ 9223372036854775807)) = true := by
        rw [List.length_map, decide_eq_true (by omega), decide_eq_true (by omega)]; rfl
      simp only [u15_78_1_0, t15_78_1_0, ltn hj, ge0, cond_true, Bool.and_self, Int.toNat_natCast, rdL hj, f16_eq, Option.bind_some, hc, nx hj (show v.length ≤ 9223372036854775807 by omega), nil_eq]
      rw [lns_succ v hj]
      by_cases hn : lineL a b c d e f g h v[j] = []
      · rw [decide_eq_true hn, if_pos hn, List.append_nil]; rfl
      · rw [decide_eq_false hn, if_neg hn, List.map_append]; rfl)
    (by simp only [u15_78_1_0, t15_78_1_0, nlt, cond_false, List.take_length])
    0 big (Nat.zero_le _) (by unfold big; omega)
  have e1 : iter big u15_78_1_0 (((), ((), (v, (((v.length : Nat) : Int), (0, ()))))), (((a, (b, (c, (d, (e, (f, (g, (h, ())))))))), (((), ()), ((a, (b, (c, (d, (e, (f, (g, (h, ())))))))), ((v, ()), (((), ((), ((), ((), ((), ((), ((), ((), ((), ((), ((), ((), ((), ((), ((), ((), ())))))))))))))))), ()))))), ([], ()))) = _ := this
  rw [e1]
  rfl

theorem rdS {l : List ByteArray} {j : Nat} (h : j < l.length) : rd .str l j = l[j] := rd_lt h

theorem loop5 (v : List LT) (hv : v.length ≤ 100) (i : Int) :
    iter big u5_7 ((v, (i, ((), (0, (0, ()))))), (((a, (b, (c, (d, (e, (f, (g, (h, ())))))))), ()), ((lns a b c d e f g h v).map sb, ()))) =
      some (.inl ((v, (i, ((), ((((lns a b c d e f g h v).length : Nat) : Int), ())))), (((a, (b, (c, (d, (e, (f, (g, (h, ())))))))), ()), ((lns a b c d e f g h v).map sb, ())))) := by
  have := it_all (u := u5_7) (fun j => ((v, (i, ((), ((((lns a b c d e f g h (v.take j)).length : Nat) : Int), (((j : Nat) : Int), ()))))), (((a, (b, (c, (d, (e, (f, (g, (h, ())))))))), ()), ((lns a b c d e f g h v).map sb, ())))) (n := v.length)
    (y := ((v, (i, ((), ((((lns a b c d e f g h v).length : Nat) : Int), ())))), (((a, (b, (c, (d, (e, (f, (g, (h, ())))))))), ()), ((lns a b c d e f g h v).map sb, ()))))
    (fun j hj => by
      have hl := lns_len (a := a) (b := b) (c := c) (d := d) (e := e) (f := f) (g := g) (h := h) (v.take j)
      rw [List.length_take] at hl
      simp only [u5_7, t5_7, ltn hj, ge0, cond_true, Bool.and_self, Int.toNat_natCast, rdL hj, f16_eq, Option.bind_some, nx hj (show v.length ≤ 9223372036854775807 by omega), nil_eq]
      rw [lns_succ v hj]
      by_cases hn : lineL a b c d e f g h v[j] = []
      · rw [decide_eq_true hn, if_pos hn, List.append_nil]; rfl
      · obtain ⟨hk, hat⟩ := lns_at v hj hn
        have hk' : (lns a b c d e f g h (v.take j)).length < ((lns a b c d e f g h v).map sb).length := by rw [List.length_map]; exact hk
        have w1 : IntKind.wrap .i64 ((((lns a b c d e f g h (v.take j)).length : Nat) : Int) + 1) = (((lns a b c d e f g h (v.take j) ++ [lineL a b c d e f g h v[j]]).length : Nat) : Int) := by
          rw [w64 (by omega) (by omega), List.length_append]; rfl
        rw [decide_eq_false hn, if_neg hn, decide_eq_false (show ¬ ((((lns a b c d e f g h v).map sb).length : Nat) : Int) ≤ (((lns a b c d e f g h (v.take j)).length : Nat) : Int) by omega)]
        simp only [cond_false, ltn hk', cond_true, Bool.and_self, decide_eq_true hk', rdS hk', List.getElem_map, hat, str_eq, bs_sb, decide_true, Bool.not_true, w1])
    (by simp only [u5_7, t5_7, nlt, cond_false, List.take_length])
    0 big (Nat.zero_le _) (by unfold big; omega)
  exact this

theorem eqL (x y : LT) : (decide (x.1 = y.1) && (decide (x.2.1 = y.2.1) && (decide (x.2.2.1 = y.2.2.1) && (decide (x.2.2.2.1 = y.2.2.2.1) && (decide (x.2.2.2.2 = y.2.2.2.2) && true))))) = decide (x = y) := by
  rw [Bool.eq_iff_iff]
  simp only [Bool.and_eq_true, decide_eq_true_eq, and_true]
  constructor
  · rintro ⟨h1, h2, h3, h4, h5⟩
    exact Prod.ext h1 (Prod.ext h2 (Prod.ext h3 (Prod.ext h4 h5)))
  · rintro rfl
    exact ⟨rfl, rfl, rfl, rfl, rfl⟩

theorem has5 (v : List LT) (hv : v.length ≤ 100) (ok : Bool) (x : LT) :
    iter big u5_19 ((v, ((), (ok, (false, (0, ()))))), (((x.1, (x.2.1, (x.2.2.1, (x.2.2.2.1, (x.2.2.2.2, ()))))), ()), ())) = some (.inl ((ok, (v.any fun y => decide (y = x), ())), ((), ()))) := by
  have := it_all (u := u5_19) (fun j => ((v, ((), (ok, ((v.take j).any (fun y => decide (y = x)), (((j : Nat) : Int), ()))))), (((x.1, (x.2.1, (x.2.2.1, (x.2.2.2.1, (x.2.2.2.2, ()))))), ()), ()))) (n := v.length)
    (y := ((ok, (v.any (fun y => decide (y = x)), ())), ((), ())))
    (fun j hj => by
      simp only [u5_19, t5_19, ltn hj, ge0, cond_true, Bool.and_self, Int.toNat_natCast, rdL hj, nx hj (show v.length ≤ 9223372036854775807 by omega), eqL]
      rw [show ((v.take (j + 1)).any fun y => decide (y = x)) = ((v.take j).any (fun y => decide (y = x)) || decide (v[j] = x)) by rw [List.take_succ_eq_append_getElem hj, List.any_append]; simp]
      cases (v.take j).any (fun y => decide (y = x)) <;> rfl)
    (by simp only [u5_19, t5_19, nlt, cond_false, List.take_length])
    0 big (Nat.zero_le _) (by unfold big; omega)
  exact this

theorem law5 (a b c d e f g h : Int) (v : List LT) (i : Int) : f5 a b c d e f g h v i = some (true, ()) := by
  unfold f5
  rw [f7_eq]
  simp only [Option.bind_some, Bool.not_true, cond_false]
  by_cases hv : 100 < v.length
  · rw [decide_eq_true (show (100 : Int) < ((v.length : Nat) : Int) by omega)]; rfl
  rw [decide_eq_false (show ¬ (100 : Int) < ((v.length : Nat) : Int) by omega), f15_eq v (by omega)]
  simp only [cond_false, Option.bind_some]
  rw [loop5 v (by omega)]
  simp only [Option.bind_some, List.length_map, decide_true, Bool.not_true, cond_false]
  by_cases h0 : i < 0
  · rw [decide_eq_true h0]; rfl
  rw [decide_eq_false h0]
  by_cases h1 : (((lns a b c d e f g h v).length : Nat) : Int) ≤ i
  · rw [decide_eq_true h1]; rfl
  rw [decide_eq_false h1, decide_eq_true (show 0 ≤ i by omega), decide_eq_true (show i < (((lns a b c d e f g h v).length : Nat) : Int) by omega)]
  have hi : i.toNat < (lns a b c d e f g h v).length := by omega
  have hi' : i.toNat < ((lns a b c d e f g h v).map sb).length := by rw [List.length_map]; exact hi
  rw [decide_eq_true hi, rdS hi', List.getElem_map]
  simp only [cond_false, cond_true, Bool.and_self]
  have hm := List.getElem_mem hi
  unfold lns at hm
  obtain ⟨hm1, hm2⟩ := List.mem_filter.1 hm
  obtain ⟨x, hx, hxl⟩ := List.mem_map.1 hm1
  have e1 : (lns a b c d e f g h v)[i.toNat] = lineL a b c d e f g h x := hxl.symm
  have hne : lineL a b c d e f g h x ≠ [] := by
    rw [hxl]; exact of_decide_eq_true hm2
  have ht : toldB a b c d e f g h x = true := by
    cases ht : toldB a b c d e f g h x with
    | true => rfl
    | false => exact absurd ((line_nil x).2 ht) hne
  rw [e1, f17_line ht]
  simp only [Option.bind_some]
  rw [has5 v (by omega)]
  simp only [Option.bind_some, cond_true]
  rw [List.any_eq_true.2 ⟨x, hx, decide_eq_true rfl⟩]
end
end Go.Proofs.Zz
