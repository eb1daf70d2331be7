/- Plain laws of chapter 21: AuditAll. -/
import Derived.Test.YtojkjedljhjleaaGreatDoorP21f
namespace Go.Proofs.Zz
open Go Go.Sy
set_option linter.unusedSimpArgs false
set_option linter.unusedVariables false

section
variable {a b c d e f g h q i' o : Int} {p : Bool} {now : Int} {P H : List HT} {L : List LT}

/-- a span of ports as they are used -/
def SpanOK (e f : Int) (s : HT) : Prop := e ≤ s.2.1 ∧ s.2.2 ≤ f ∧ s.2.1 ≤ s.2.2 ∧ 0 ≤ s.1 ∧ s.1 ≤ 3

theorem base_ok {sub : Int} (hs : isSub a b c d e f g h sub = true) : SpanOK e f (baseI a b c d e f g sub) := by
  unfold isSub at hs
  simp only [Bool.and_eq_true, decide_eq_true_eq] at hs
  have F := fitB_spec hs.1
  obtain ⟨q1, q2, q3, q4, q5⟩ := F.base hs.2.1 hs.2.2
  have he := F.each.1
  have := F.y2
  have := F.g1
  unfold SpanOK baseI
  simp only
  generalize baseFrom a b c d e f g sub = k at q3 q4 ⊢
  generalize eachI a b c d e f g = w at he q4 ⊢
  omega

theorem blk_ok {x y : Int} (hs : isBlk a b c d e f g h x y = true) : SpanOK e f (blkI f g h x y) := by
  unfold isBlk at hs
  simp only [Bool.and_eq_true, decide_eq_true_eq] at hs
  have F := fitB_spec hs.1
  obtain ⟨q1, q2⟩ := F.block hs.2.2.1 hs.2.2.2
  have := F.y2
  have := F.g2
  have := F.h1
  unfold SpanOK blkI
  simp only
  generalize y * h = k at q1 q2 ⊢
  omega

theorem count_ok (sub a b c d e f g h q i' o : Int) (p : Bool) (now : Int) (P : List HT) (L : List LT) (H : List HT) (l : List HT) (hL : L.length ≤ 100) :
    iter big u6_8 ((sub, ((), (0, (0, ())))), (((a, (b, (c, (d, (e, (f, (g, (h, (q, (i', (o, (p, (now, (P, (L, (H, ())))))))))))))))), ()), (l, ()))) =
      some (.inl (((), ((((ofI L sub L.length).length : Nat) : Int), ())), (((a, (b, (c, (d, (e, (f, (g, (h, (q, (i', (o, (p, (now, (P, (L, (H, ())))))))))))))))), ()), (l, ())))) := by
  have := it_all (u := u6_8) (fun j => ((sub, ((), ((((ofI L sub j).length : Nat) : Int), (((j : Nat) : Int), ())))), (((a, (b, (c, (d, (e, (f, (g, (h, (q, (i', (o, (p, (now, (P, (L, (H, ())))))))))))))))), ()), (l, ())))) (n := L.length)
    (y := (((), ((((ofI L sub L.length).length : Nat) : Int), ())), (((a, (b, (c, (d, (e, (f, (g, (h, (q, (i', (o, (p, (now, (P, (L, (H, ())))))))))))))))), ()), (l, ()))))
    (fun j hj => by
      have hlen := ofI_len L sub j
      simp only [u6_8, t6_8, ltn hj, ge0, cond_true, Bool.and_self, Int.toNat_natCast, rdL hj, nx hj (show L.length ≤ 9223372036854775807 by omega)]
      rw [ofI_succ L sub hj]
      by_cases he : L[j].1 = sub
      · rw [decide_eq_true he, if_pos he, List.length_append, w64 (by omega) (by omega)]
        rfl
      · rw [decide_eq_false he, if_neg he, List.append_nil]; rfl)
    (by simp only [u6_8, t6_8, nlt, cond_false])
    0 big (Nat.zero_le _) (by unfold big; omega)
  exact this

theorem check_ok (n a b c d e f g h q i' o : Int) (p : Bool) (now : Int) (P : List HT) (L : List LT) (H : List HT) (l : List HT) (hl : l.length ≤ 1000) (ho : ∀ s ∈ l, SpanOK e f s) :
    iter big u6_13 (((), (n, (0, ()))), (((a, (b, (c, (d, (e, (f, (g, (h, (q, (i', (o, (p, (now, (P, (L, (H, ())))))))))))))))), ()), (l, ()))) = some (.inl ((n, ()), ((), (l, ())))) := by
  have := it_all (u := u6_13) (fun j => (((), (n, (((j : Nat) : Int), ()))), (((a, (b, (c, (d, (e, (f, (g, (h, (q, (i', (o, (p, (now, (P, (L, (H, ())))))))))))))))), ()), (l, ())))) (n := l.length)
    (y := ((n, ()), ((), (l, ()))))
    (fun j hj => by
      obtain ⟨o1, o2, o3, o4, o5⟩ := ho _ (List.getElem_mem hj)
      simp only [u6_13, t6_13, ltn hj, ge0, cond_true, Bool.and_self, Int.toNat_natCast, rdH hj, nx hj (show l.length ≤ 9223372036854775807 by omega), decide_eq_true hj,
        decide_eq_false (show ¬ l[j].2.1 < e by omega), decide_eq_false (show ¬ f < l[j].2.2 by omega), decide_eq_false (show ¬ l[j].2.2 < l[j].2.1 by omega), decide_eq_false (show ¬ l[j].1 < 0 by omega), decide_eq_false (show ¬ 3 < l[j].1 by omega), cond_false])
    (by simp only [u6_13, t6_13, nlt, cond_false])
    0 big (Nat.zero_le _) (by unfold big; omega)
  exact this

theorem law6 (a b c d e f g h q i' o : Int) (p : Bool) (now : Int) (P : List HT) (L : List LT) (H : List HT) (sub : Int) : f6 a b c d e f g h q i' o p now P L H sub = some (true, ()) := by
  unfold f6
  rw [f7_eq, f8_eq]
  simp only [Option.bind_some, Bool.not_true, cond_false, cond_true]
  cases hf : (decide (L.length ≤ 40) && (decide (H.length ≤ 40) && decide (P.length ≤ 6))) with
  | false => rfl
  | true =>
  simp only [Bool.and_eq_true, decide_eq_true_eq] at hf
  obtain ⟨hL, hH, hP⟩ := hf
  simp only [Bool.not_true, cond_false]
  rw [f11_eq (by unfold Sz; omega) (by unfold Sz; omega) (by unfold Sz; omega), f9_eq (by unfold Sz; omega) (by omega) (by unfold Sz; omega)]
  simp only [Option.bind_some]
  cases hm : mayB a b c d e f g h q i' o p now P L H with
  | false =>
    simp only [Bool.not_false, cond_true, Bool.false_eq_true, and_false, if_false]
    rfl
  | true =>
  have M := mayB_spec (by unfold Sz; omega) (by unfold Sz; omega) (by unfold Sz; omega) hm
  simp only [Bool.not_true, cond_false, and_true]
  rw [count_ok _ _ _ _ _ _ _ _ _ _ _ _ _ _ _ _ _ _ (by omega)]
  simp only [Option.bind_some]
  have hlen := ofI_len L sub L.length
  cases hs : isSub a b c d e f g h sub with
  | false =>
    have hno : ofI L sub L.length = [] := by
      rw [List.eq_nil_iff_forall_not_mem]
      intro j hj
      obtain ⟨hk, hks⟩ := ofI_mem hj
      have := M.leases.sub _ (List.getElem_mem hk)
      rw [hks, hs] at this
      simp at this
    rw [hno]
    simp only [Bool.false_eq_true, if_false]
    rw [check_ok _ _ _ _ _ _ _ _ _ _ _ _ _ _ _ _ _ [] (by simp) (by simp)]
    rfl
  | true =>
    simp only [if_true]
    have hall : ∀ s ∈ baseI a b c d e f g sub :: spansI f g h L (ofI L sub L.length), SpanOK e f s := by
      intro s hm
      rcases List.mem_cons.1 hm with rfl | hm
      · exact base_ok hs
      · unfold spansI at hm
        obtain ⟨j, hj, rfl⟩ := List.mem_map.1 hm
        obtain ⟨hk, hks⟩ := ofI_mem hj
        rw [List.getElem?_eq_getElem hk]
        exact blk_ok (M.leases.blk _ (List.getElem_mem hk))
    have hl2 : (baseI a b c d e f g sub :: spansI f g h L (ofI L sub L.length)).length = (ofI L sub L.length).length + 1 := by
      rw [List.length_cons, spansI, List.length_map]
    rw [check_ok _ _ _ _ _ _ _ _ _ _ _ _ _ _ _ _ _ _ (by omega) hall]
    simp only [Option.bind_some, hl2]
    rw [decide_eq_false (by omega), w64 (by omega) (by omega)]
    simp only [cond_false]
    rw [decide_eq_true (by omega)]
end
end Go.Proofs.Zz
