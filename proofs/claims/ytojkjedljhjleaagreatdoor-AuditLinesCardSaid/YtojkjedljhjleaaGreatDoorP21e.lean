/- Plain laws of chapter 21: what is held; a state that may be; ports. -/
import Derived.Test.YtojkjedljhjleaaGreatDoorP21d
namespace Go.Proofs.Zz
open Go Go.Sy
set_option linter.unusedSimpArgs false
set_option linter.unusedVariables false

section
variable {a b c d e f g h q i' o : Int} {p : Bool} {now : Int} {P H : List HT} {L : List LT}

/-- what is held, as it may be -/
structure HeldsP (a b c d e f g h : Int) (L : List LT) (H : List HT) : Prop where
  blk : ∀ x ∈ H, isBlk a b c d e f g h x.1 x.2.1 = true
  free : ∀ x ∈ H, ¬ L.findIdx (findP x.1 x.2.1) < L.length
  srt : ∀ j (hj : j + 1 < H.length), ltB H[j].1 H[j].2.1 H[j + 1].1 H[j + 1].2.1

abbrev st33 (a b c d e f g h q i' o : Int) (p : Bool) (now : Int) (P : List HT) (L : List LT) (H : List HT) (j : Nat) : X33_2 :=
  (((), (H, (((H.length : Nat) : Int), (((j : Nat) : Int), ())))), (((a, (b, (c, (d, (e, (f, (g, (h, (q, (i', (o, (p, (now, (P, (L, (H, ())))))))))))))))), ()), ()))

theorem step33 (hL : Sz L) (hH : Sz H) (j : Nat) (hj : j < H.length) :
    u33_2 (st33 a b c d e f g h q i' o p now P L H j) = some (.ret ((false, ()), ((), ()))) ∨
    (u33_2 (st33 a b c d e f g h q i' o p now P L H j) = some (.next (st33 a b c d e f g h q i' o p now P L H (j + 1))) ∧
      isBlk a b c d e f g h H[j].1 H[j].2.1 = true ∧ ¬ L.findIdx (findP H[j].1 H[j].2.1) < L.length ∧
      (∀ (h0 : 0 < j), ltB (H[j - 1]'(by omega)).1 (H[j - 1]'(by omega)).2.1 H[j].1 H[j].2.1)) := by
  simp only [st33, u33_2, t33_2, ltn hj, ge0, cond_true, Bool.and_self, Int.toNat_natCast, rdH hj, f23_eq', f29_eq, Option.bind_some, f25_eq L hL, nx hj hH]
  cases hB : isBlk a b c d e f g h H[j].1 H[j].2.1 with
  | false => exact .inl rfl
  | true =>
  simp only [Bool.not_true, cond_false]
  cases (decide (IntKind.wrap .i64 (now + 1) ≤ H[j].2.2) && decide (H[j].2.2 ≤ IntKind.wrap .i64 (now + 1048576))) with
  | false => exact .inl rfl
  | true =>
  simp only [Bool.not_true, cond_false]
  by_cases hI : L.findIdx (findP H[j].1 H[j].2.1) < L.length
  · rw [if_pos hI, decide_eq_false (show ¬ ((L.findIdx (findP H[j].1 H[j].2.1) : Nat) : Int) = -1 by omega)]
    exact .inl rfl
  rw [if_neg hI]
  simp only [decide_true, Bool.not_true, cond_false]
  by_cases h0 : 0 < j
  · have hw : IntKind.wrap .i64 (((j : Nat) : Int) - 1) = ((j - 1 : Nat) : Int) := by rw [w64 (by omega) (by omega)]; omega
    have hl1 : j - 1 < H.length := by omega
    rw [decide_eq_true (show (0 : Int) < ((j : Nat) : Int) by omega), hw, ge0, ltn hl1, Int.toNat_natCast, rdH hl1, f67_eq]
    simp only [cond_true, Bool.and_self, Option.bind_some]
    cases hb : (decide ((H[j - 1]'(by omega)).1 < H[j].1) || (decide (H[j].1 = (H[j - 1]'(by omega)).1) && decide ((H[j - 1]'(by omega)).2.1 < H[j].2.1))) with
    | false => exact .inl rfl
    | true =>
      simp only [Bool.or_eq_true, Bool.and_eq_true, decide_eq_true_eq] at hb
      exact .inr ⟨rfl, trivial, hI, fun _ => by unfold ltB; omega⟩
  · rw [decide_eq_false (show ¬ (0 : Int) < ((j : Nat) : Int) by omega)]
    exact .inr ⟨rfl, trivial, hI, fun h => absurd h h0⟩

theorem f33_ok (hL : Sz L) (hH : Sz H) : ∃ r, f33 a b c d e f g h q i' o p now P L H = some (r, ()) ∧ (r = true → HeldsP a b c d e f g h L H) := by
  unfold f33
  let J : Nat → Prop := fun j => j ≤ H.length ∧ (∀ i (hi : i < H.length), i < j → isBlk a b c d e f g h H[i].1 H[i].2.1 = true ∧ ¬ L.findIdx (findP H[i].1 H[i].2.1) < L.length) ∧
    ∀ i (hi : i + 1 < H.length), i + 1 < j → ltB H[i].1 H[i].2.1 H[i + 1].1 H[i + 1].2.1
  obtain ⟨r, e1, e2⟩ := it_inv (f := u33_2) (fun x => ∃ j, x = st33 a b c d e f g h q i' o p now P L H j ∧ J j) (fun x => H.length - x.1.2.2.2.1.toNat)
    (fun r => match r with
      | .inl y => J H.length
      | .inr z => z.1.1 = false) (by
    rintro x ⟨j, rfl, hj1, hj2, hj3⟩
    rcases Nat.lt_or_ge j H.length with hlt | hge
    · rcases step33 (a := a) (b := b) (c := c) (d := d) (e := e) (f := f) (g := g) (h := h) (q := q) (i' := i') (o := o) (p := p) (now := now) (P := P) hL hH j hlt with hs | ⟨hs, k1, k2, k4⟩
      · exact .inr (.inr ⟨_, hs, rfl⟩)
      · refine .inl ⟨_, hs, ⟨j + 1, rfl, by omega, fun i hi hij => ?_, fun i hi hij => ?_⟩, ?_⟩
        · by_cases ei : i = j
          · subst ei; exact ⟨k1, k2⟩
          · exact hj2 i hi (by omega)
        · by_cases ei : i + 1 = j
          · subst ei; exact k4 (by omega)
          · exact hj3 i hi (by omega)
        · show H.length - Int.toNat (((j + 1 : Nat) : Int)) < H.length - Int.toNat ((j : Nat) : Int)
          omega
    · have : j = H.length := by omega
      subst this
      refine .inr (.inl ⟨((), ((), ())), ?_, ⟨by omega, hj2, hj3⟩⟩)
      simp only [st33, u33_2, t33_2, nlt, cond_false])
    big (st33 a b c d e f g h q i' o p now P L H 0) ⟨0, rfl, by omega, fun i hi h => by omega, fun i hi h => by omega⟩ (by
      show H.length - Int.toNat ((0 : Nat) : Int) < big
      unfold big; omega)
  have e1' : iter big u33_2 (((), (H, (((H.length : Nat) : Int), (0, ())))), (((a, (b, (c, (d, (e, (f, (g, (h, (q, (i', (o, (p, (now, (P, (L, (H, ())))))))))))))))), ()), ())) = some r := e1
  rw [e1']
  cases r with
  | inl y =>
    obtain ⟨_, k1, k2⟩ := e2
    refine ⟨true, rfl, fun _ => ⟨fun x hx => ?_, fun x hx => ?_, fun j hj => k2 j hj hj⟩⟩
    all_goals obtain ⟨i, hi, rfl⟩ := List.mem_iff_getElem.1 hx
    · exact (k1 i hi hi).1
    · exact (k1 i hi hi).2
  | inr z =>
    refine ⟨z.1.1, rfl, fun hr => ?_⟩
    have : z.1.1 = false := e2
    rw [this] at hr; simp at hr

/-- a state that may be -/
structure MayS (a b c d e f g h : Int) (P : List HT) (L : List LT) (H : List HT) : Prop where
  fit : fitB a b c d e f g h = true
  pools : PoolsP P (sizeI c d)
  leases : LeasesP a b c d e f g h P L
  helds : HeldsP a b c d e f g h L H

theorem f28_some (x y z : Int) (w : Bool) : ∃ r, f28 x y z w = some (r, ()) := by
  unfold f28
  simp only [f29_eq, Option.bind_some]
  cases (decide (1 ≤ x) && decide (x ≤ 8)) with
  | false => exact ⟨_, rfl⟩
  | true => cases (decide (1 ≤ y) && decide (y ≤ 1048576)) <;> exact ⟨_, rfl⟩

theorem f11_ok (hP : Sz P) (hL : Sz L) (hH : Sz H) : ∃ r, f11 a b c d e f g h q i' o p now P L H = some (r, ()) ∧ (r = true → MayS a b c d e f g h P L H) := by
  unfold f11
  rw [f27_eq]
  simp only [Option.bind_some]
  cases hf : fitB a b c d e f g h with
  | false => exact ⟨_, rfl, fun h => by simp at h⟩
  | true =>
  obtain ⟨r1, h1⟩ := f28_some q i' o p
  rw [h1]
  simp only [Option.bind_some, cond_true, f29_eq]
  cases r1 with
  | false => exact ⟨_, rfl, fun h => by simp at h⟩
  | true =>
  simp only [cond_true]
  cases (decide (0 ≤ now) && decide (now ≤ 1073741824)) with
  | false => exact ⟨_, rfl, fun h => by simp at h⟩
  | true =>
  simp only [cond_true]
  have h31 : f31 a b c d e f g h q i' o p now P L H = some (sizeI c d, ()) := by unfold f31; rw [f34_eq]; rfl
  rw [h31]
  simp only [Option.bind_some]
  obtain ⟨r2, h2, k2⟩ := f30_ok P (sizeI c d)
  rw [h2]
  simp only [Option.bind_some]
  cases r2 with
  | false => exact ⟨_, rfl, fun h => by simp at h⟩
  | true =>
  simp only [cond_true]
  obtain ⟨r3, h3, k3⟩ := f32_ok (a := a) (b := b) (c := c) (d := d) (e := e) (f := f) (g := g) (h := h) (q := q) (i' := i') (o := o) (p := p) (now := now) (H := H) hP hL
  rw [h3]
  simp only [Option.bind_some]
  cases r3 with
  | false => exact ⟨_, rfl, fun h => by simp at h⟩
  | true =>
  simp only [cond_true]
  obtain ⟨r4, h4, k4⟩ := f33_ok (a := a) (b := b) (c := c) (d := d) (e := e) (f := f) (g := g) (h := h) (q := q) (i' := i') (o := o) (p := p) (now := now) (P := P) hL hH
  rw [h4]
  exact ⟨r4, rfl, fun hr => ⟨hf, k2 rfl, k3 rfl, k4 hr⟩⟩

/-- may the state be? -/
noncomputable def mayB (a b c d e f g h q i' o : Int) (p : Bool) (now : Int) (P : List HT) (L : List LT) (H : List HT) : Bool := match f11 a b c d e f g h q i' o p now P L H with
  | some (r, _) => r
  | none => false

theorem f11_eq (hP : Sz P) (hL : Sz L) (hH : Sz H) : f11 a b c d e f g h q i' o p now P L H = some (mayB a b c d e f g h q i' o p now P L H, ()) := by
  obtain ⟨r, h1, _⟩ := f11_ok (a := a) (b := b) (c := c) (d := d) (e := e) (f := f) (g := g) (h := h) (q := q) (i' := i') (o := o) (p := p) (now := now) hP hL hH
  unfold mayB
  rw [h1]

theorem mayB_spec (hP : Sz P) (hL : Sz L) (hH : Sz H) (hm : mayB a b c d e f g h q i' o p now P L H = true) : MayS a b c d e f g h P L H := by
  obtain ⟨r, h1, h2⟩ := f11_ok (a := a) (b := b) (c := c) (d := d) (e := e) (f := f) (g := g) (h := h) (q := q) (i' := i') (o := o) (p := p) (now := now) hP hL hH
  refine h2 ?_
  unfold mayB at hm
  rw [h1] at hm
  exact hm

/-- the places of a subscriber's leases -/
def ofI (L : List LT) (sub : Int) (k : Nat) : List Nat := (List.range k).filter fun j => match L[j]? with
  | some x => decide (x.1 = sub)
  | none => false

theorem ofI_succ (L : List LT) (sub : Int) {k : Nat} (hk : k < L.length) : ofI L sub (k + 1) = ofI L sub k ++ (if L[k].1 = sub then [k] else []) := by
  unfold ofI
  rw [List.range_succ, List.filter_append]
  congr 1
  simp only [List.filter_cons, List.getElem?_eq_getElem hk, decide_eq_true_eq, List.filter_nil]

theorem ofI_len (L : List LT) (sub : Int) (k : Nat) : (ofI L sub k).length ≤ k := by
  unfold ofI
  exact Nat.le_trans (List.length_filter_le _ _) (by simp)

theorem ofI_mem {L : List LT} {sub : Int} {k j : Nat} (h : j ∈ ofI L sub k) : ∃ (hj : j < L.length), L[j].1 = sub := by
  unfold ofI at h
  have h2 := (List.mem_filter.1 h).2
  cases hx : L[j]? with
  | none => rw [hx] at h2; simp at h2
  | some x =>
    rw [hx] at h2
    obtain ⟨hj, e⟩ := List.getElem?_eq_some_iff.1 hx
    exact ⟨hj, by rw [e]; simpa using h2⟩

theorem f22_eq (hL : L.length ≤ 100) (sub : Int) : f22 L sub = some ((ofI L sub L.length).map fun j => ((j : Nat) : Int), ()) := by
  unfold f22
  have := it_all (u := u22_3) (fun j => ((sub, (L, (((L.length : Nat) : Int), (((j : Nat) : Int), ())))), ((), ((ofI L sub j).map fun j => ((j : Nat) : Int), ())))) (n := L.length)
    (y := ((), ((), ((ofI L sub L.length).map fun j => ((j : Nat) : Int), ()))))
    (fun j hj => by
      have hlen := ofI_len L sub j
      have hc : (decide ((((ofI L sub j).map fun j => ((j : Nat) : Int)).length + 1) * 8 ≤ 140737488355328) && decide (((ofI L sub j).map fun j => ((j : Nat) : Int)).length + 1 ≤ 9223372036854775807)) = true := by
        rw [List.length_map, decide_eq_true (by omega), decide_eq_true (by omega)]; rfl
      simp only [u22_3, t22_3, ltn hj, ge0, cond_true, Bool.and_self, Int.toNat_natCast, rdL hj, nx hj (show L.length ≤ 9223372036854775807 by omega), hc]
      rw [ofI_succ L sub hj]
      by_cases he : L[j].1 = sub
      · rw [decide_eq_true he, if_pos he, List.map_append]; rfl
      · rw [decide_eq_false he, if_neg he, List.append_nil]; rfl)
    (by simp only [u22_3, t22_3, nlt, cond_false])
    0 big (Nat.zero_le _) (by unfold big; omega)
  have e1 : iter big u22_3 ((sub, (L, (((L.length : Nat) : Int), (0, ())))), ((), ([], ()))) = _ := this
  rw [e1]
  rfl

/-- the spans of leases' blocks -/
def spansI (f g h : Int) (L : List LT) (l : List Nat) : List HT := l.map fun j => match L[j]? with
  | some x => blkI f g h x.2.1 x.2.2.1
  | none => (0, (0, 0))

theorem f9_eq (hP : Sz P) (hL : L.length ≤ 100) (hH : Sz H) (sub : Int) : f9 a b c d e f g h q i' o p now P L H sub =
    some (if isSub a b c d e f g h sub = true ∧ mayB a b c d e f g h q i' o p now P L H = true then baseI a b c d e f g sub :: spansI f g h L (ofI L sub L.length) else [], ()) := by
  unfold f9
  rw [f21_eq', f11_eq hP (by unfold Sz; omega) hH]
  simp only [Option.bind_some]
  cases hs : isSub a b c d e f g h sub with
  | false => rfl
  | true =>
  cases hm : mayB a b c d e f g h q i' o p now P L H with
  | false => rfl
  | true =>
  have M := mayB_spec hP (by unfold Sz; omega) hH hm
  simp only [Bool.not_true, cond_false, f22_eq hL, Option.bind_some, and_self, if_true]
  have hlen := ofI_len L sub L.length
  have := it_all (u := u9_6) (fun j => (((), ((((((ofI L sub L.length).map fun j => ((j : Nat) : Int)) : List Int).length : Nat) : Int), (((j : Nat) : Int), ()))), (((a, (b, (c, (d, (e, (f, (g, (h, (q, (i', (o, (p, (now, (P, (L, (H, ())))))))))))))))), ()), (baseI a b c d e f g sub :: spansI f g h L ((ofI L sub L.length).take j), ((ofI L sub L.length).map fun j => ((j : Nat) : Int), ()))))) (n := (ofI L sub L.length).length)
    (y := ((), ((), (baseI a b c d e f g sub :: spansI f g h L (ofI L sub L.length), ()))))
    (fun j hj => by
      have hj' : j < ((ofI L sub L.length).map fun j => ((j : Nat) : Int)).length := by simpa using hj
      have hmem := List.getElem_mem hj
      obtain ⟨hk, hks⟩ := ofI_mem hmem
      have hrd : rd (.int .i64) ((ofI L sub L.length).map fun j => ((j : Nat) : Int)) j = (((ofI L sub L.length)[j] : Nat) : Int) := by
        rw [rdI hj', List.getElem_map]
      have hblk := M.leases.blk _ (List.getElem_mem hk)
      have hc : (decide (((baseI a b c d e f g sub :: spansI f g h L ((ofI L sub L.length).take j)).length + 1) * 24 ≤ 140737488355328) && decide ((baseI a b c d e f g sub :: spansI f g h L ((ofI L sub L.length).take j)).length + 1 ≤ 9223372036854775807)) = true := by
        rw [List.length_cons, spansI, List.length_map, List.length_take, decide_eq_true (by omega), decide_eq_true (by omega)]; rfl
      have hnx := nx hj' (show ((ofI L sub L.length).map fun j => ((j : Nat) : Int)).length ≤ 9223372036854775807 by rw [List.length_map]; omega)
      simp only [u9_6, t9_6, ltn hj', ge0, cond_true, Bool.and_self, Int.toNat_natCast, hrd, ltn hk, rdL hk, decide_eq_true hj', f23_eq', hblk, Option.bind_some, if_true, hc, hnx]
      have e2 : spansI f g h L ((ofI L sub L.length).take (j + 1)) = spansI f g h L ((ofI L sub L.length).take j) ++ [blkI f g h (L[(ofI L sub L.length)[j]]'hk).2.1 (L[(ofI L sub L.length)[j]]'hk).2.2.1] := by
        unfold spansI
        rw [List.take_succ_eq_append_getElem hj, List.map_append]
        simp only [List.map_cons, List.map_nil, List.getElem?_eq_getElem hk]
      rw [e2]
      rfl)
    (by simp only [u9_6, t9_6]; rw [show (ofI L sub L.length).length = ((ofI L sub L.length).map fun j => ((j : Nat) : Int)).length by simp]; simp only [nlt, cond_false, List.length_map, List.take_length])
    0 big (Nat.zero_le _) (by unfold big; omega)
  have e1 : iter big u9_6 (((), ((((((ofI L sub L.length).map fun j => ((j : Nat) : Int)) : List Int).length : Nat) : Int), (0, ()))), (((a, (b, (c, (d, (e, (f, (g, (h, (q, (i', (o, (p, (now, (P, (L, (H, ())))))))))))))))), ()), ([baseI a b c d e f g sub], ((ofI L sub L.length).map fun j => ((j : Nat) : Int), ())))) = _ := this
  have e3 : [((baseI a b c d e f g sub).1, ((baseI a b c d e f g sub).2.1, (baseI a b c d e f g sub).2.2))] = [baseI a b c d e f g sub] := rfl
  rw [e3, e1]
  rfl
end
end Go.Proofs.Zz
