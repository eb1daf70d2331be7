/- Plain laws of chapter 21: whose a port is. -/
import Derived.Test.YtojkjedljhjleaaGreatDoorP21g
namespace Go.Proofs.Zz
open Go Go.Sy
set_option linter.unusedSimpArgs false
set_option linter.unusedVariables false

section
variable {a b c d e f g h : Int}

abbrev nI (a b c d : Int) : Int := ratI (sizeI a b) (sizeI c d)

noncomputable def whoI (a b c d e f g h at' port : Int) : Int :=
  if fitB a b c d e f g h = true ∧ 0 ≤ at' ∧ at' < sizeI c d ∧ e ≤ port ∧ port ≤ f ∧ (port - e) / eachI a b c d e f g < nI a b c d ∧ isSub a b c d e f g h (at' * nI a b c d + (port - e) / eachI a b c d e f g) = true
  then at' * nI a b c d + (port - e) / eachI a b c d e f g else -1

theorem f24_eq (at' port : Int) : f24 a b c d e f g h at' port = some (whoI a b c d e f g h at' port, ()) := by
  unfold f24
  rw [f27_eq]
  simp only [Option.bind_some]
  cases hf : fitB a b c d e f g h with
  | false =>
    have : whoI a b c d e f g h at' port = -1 := by unfold whoI; rw [if_neg (by rw [hf]; simp)]
    rw [this]; rfl
  | true =>
  have F := fitB_spec hf
  simp only [Bool.not_true, cond_false]
  by_cases h0 : at' < 0
  · have : whoI a b c d e f g h at' port = -1 := by unfold whoI; rw [if_neg (by omega)]
    rw [decide_eq_true h0, this]; rfl
  rw [decide_eq_false h0, f34_eq]
  simp only [cond_false, Option.bind_some]
  by_cases h1 : sizeI c d ≤ at'
  · have : whoI a b c d e f g h at' port = -1 := by unfold whoI; rw [if_neg (by omega)]
    rw [decide_eq_true h1, this]; rfl
  rw [decide_eq_false h1]
  simp only [cond_false]
  by_cases h2 : port < e
  · have : whoI a b c d e f g h at' port = -1 := by unfold whoI; rw [if_neg (by omega)]
    rw [decide_eq_true h2, this]; rfl
  rw [decide_eq_false h2]
  simp only [cond_false]
  by_cases h3 : f < port
  · have : whoI a b c d e f g h at' port = -1 := by unfold whoI; rw [if_neg (by omega)]
    rw [decide_eq_true h3, this]; rfl
  rw [decide_eq_false h3, f49_fit F.x1 F.y1, f50_fit hf]
  simp only [cond_false, Option.bind_some]
  have hr := F.rat1
  have he := F.each
  have hy := F.y2
  have hhi := F.hi
  have hlo := F.lo1
  have hE : whoI a b c d e f g h at' port = (if (port - e) / eachI a b c d e f g < nI a b c d ∧ isSub a b c d e f g h (at' * nI a b c d + (port - e) / eachI a b c d e f g) = true then at' * nI a b c d + (port - e) / eachI a b c d e f g else -1) := by
    unfold whoI
    by_cases hc : (port - e) / eachI a b c d e f g < nI a b c d ∧ isSub a b c d e f g h (at' * nI a b c d + (port - e) / eachI a b c d e f g) = true
    · rw [if_pos hc, if_pos ⟨hf, by omega, by omega, by omega, by omega, hc.1, hc.2⟩]
    · rw [if_neg hc, if_neg (fun hh => hc ⟨hh.2.2.2.2.2.1, hh.2.2.2.2.2.2⟩)]
  rw [hE]
  show (cond (!decide (eachI a b c d e f g = 0)) _ _) = _
  have k0 : 0 ≤ (port - e) / eachI a b c d e f g := Int.ediv_nonneg (by omega) (by omega)
  have k1 : (port - e) / eachI a b c d e f g ≤ port - e := Int.ediv_le_self _ (by omega)
  have m0 : 0 ≤ at' * nI a b c d := Int.mul_nonneg (by omega) (by show 0 ≤ ratI _ _; omega)
  have m1 : at' * nI a b c d ≤ at' * 32 := Int.mul_le_mul_of_nonneg_left (by show ratI _ _ ≤ 32; omega) (by omega)
  have t1 : Int.tdiv (port - e) (eachI a b c d e f g) = (port - e) / eachI a b c d e f g := Int.tdiv_eq_ediv_of_nonneg (by omega)
  rw [decide_eq_false (show ¬ eachI a b c d e f g = 0 by omega), w64 (x := port - e) (by omega) (by omega), t1]
  have e1 : IntKind.wrap .i64 (at' * ratI (sizeI a b) (sizeI c d)) = at' * nI a b c d := w64 (by show _ ≤ at' * nI a b c d; omega) (by show at' * nI a b c d ≤ _; omega)
  rw [e1]
  have e2 : ratI (sizeI a b) (sizeI c d) = nI a b c d := rfl
  rw [e2]
  have hsub0 : e = e := rfl
  -- the subscriber's ports are not nothing
  have hz : isSub a b c d e f g h (at' * nI a b c d + (port - e) / eachI a b c d e f g) = true → ((decide ((baseI a b c d e f g (at' * nI a b c d + (port - e) / eachI a b c d e f g)).1 = 0)) && ((decide ((baseI a b c d e f g (at' * nI a b c d + (port - e) / eachI a b c d e f g)).2.1 = 0)) && ((decide ((baseI a b c d e f g (at' * nI a b c d + (port - e) / eachI a b c d e f g)).2.2 = 0)) && true))) = false := by
    intro hs
    have := (base_ok hs).1
    rw [decide_eq_false (show ¬ (baseI a b c d e f g (at' * nI a b c d + (port - e) / eachI a b c d e f g)).2.1 = 0 by omega)]
    simp
  generalize (port - e) / eachI a b c d e f g = k at k0 k1 hz ⊢
  rw [w64 (x := k) (by omega) (by omega), w64 (x := at' * nI a b c d + k) (by omega) (by omega), f21_eq']
  simp only [Bool.not_false, cond_true, Option.bind_some]
  cases hs : isSub a b c d e f g h (at' * nI a b c d + k) with
  | false =>
    rw [if_neg (show ¬ (k < nI a b c d ∧ false = true) by simp)]
    cases decide (nI a b c d ≤ k) <;> rfl
  | true =>
    have hz := hz hs
    by_cases hk : nI a b c d ≤ k
    · rw [decide_eq_true hk, if_neg (show ¬ (k < nI a b c d ∧ true = true) by omega)]; rfl
    · rw [decide_eq_false hk, if_pos (show k < nI a b c d ∧ true = true from ⟨by omega, rfl⟩)]
      simp only [if_true, Bool.not_true, cond_false]
      rw [hz]
      rfl

theorem who_base {sub at' port : Int} (hs : isSub a b c d e f g h sub = true) (h1 : at' = (baseI a b c d e f g sub).1) (h2 : (baseI a b c d e f g sub).2.1 ≤ port) (h3 : port ≤ (baseI a b c d e f g sub).2.2) : whoI a b c d e f g h at' port = sub := by
  have hs' := hs
  unfold isSub at hs'
  simp only [Bool.and_eq_true, decide_eq_true_eq] at hs'
  have F := fitB_spec hs'.1
  obtain ⟨q1, q2, q3, q4, q5⟩ := F.base hs'.2.1 hs'.2.2
  have hr := F.rat1
  have he := F.each.1
  have hg := F.g1
  unfold baseI at h1 h2 h3
  simp only at h1 h2 h3
  have hn : 1 ≤ nI a b c d := hr.1
  have hd := Int.mul_ediv_add_emod sub (nI a b c d)
  have m0 := Int.emod_nonneg sub (show nI a b c d ≠ 0 by omega)
  have m1 := Int.emod_lt_of_pos sub (show 0 < nI a b c d by omega)
  have hk : (port - e) / eachI a b c d e f g = sub % nI a b c d := by
    unfold baseFrom at h2 h3
    have hh2 : sub % nI a b c d * eachI a b c d e f g ≤ port - e := by show sub % ratI _ _ * _ ≤ _; omega
    have hh3 : port - e < (sub % nI a b c d + 1) * eachI a b c d e f g := by
      rw [Int.add_mul, Int.one_mul]; show _ < sub % ratI _ _ * _ + _; omega
    generalize sub % nI a b c d = r at hh2 hh3 ⊢
    generalize eachI a b c d e f g = w at he hh2 hh3 ⊢
    have h4 := (Int.le_ediv_iff_mul_le (c := w) (by omega)).2 hh2
    have h5 := (Int.ediv_lt_iff_lt_mul (c := w) (by omega)).2 hh3
    omega
  have hat : at' * nI a b c d + (port - e) / eachI a b c d e f g = sub := by
    rw [hk, h1, Int.mul_comm]; exact hd
  unfold whoI
  rw [if_pos ⟨hs'.1, by rw [h1]; exact q1, by rw [h1]; exact q2, by omega, by omega, by rw [hk]; exact m1, by rw [hat]; exact hs⟩, hat]

theorem who_spec {at' port : Int} (hw : whoI a b c d e f g h at' port ≠ -1) : isSub a b c d e f g h (whoI a b c d e f g h at' port) = true ∧ (baseI a b c d e f g (whoI a b c d e f g h at' port)).1 = at' ∧
    (baseI a b c d e f g (whoI a b c d e f g h at' port)).2.1 ≤ port ∧ port ≤ (baseI a b c d e f g (whoI a b c d e f g h at' port)).2.2 := by
  unfold whoI at hw ⊢
  split at hw
  · rename_i hc
    obtain ⟨hf, h0, h1, h2, h3, h4, h5⟩ := hc
    rw [if_pos ⟨hf, h0, h1, h2, h3, h4, h5⟩]
    have F := fitB_spec hf
    have hr := F.rat1
    have he := F.each.1
    have hn : 1 ≤ nI a b c d := hr.1
    have k0 : 0 ≤ (port - e) / eachI a b c d e f g := Int.ediv_nonneg (by omega) (by omega)
    have d1 : (at' * nI a b c d + (port - e) / eachI a b c d e f g) / nI a b c d = at' := by
      rw [Int.add_comm, Int.add_mul_ediv_right _ _ (by omega), Int.ediv_eq_zero_of_lt k0 h4, Int.zero_add]
    have d2 : (at' * nI a b c d + (port - e) / eachI a b c d e f g) % nI a b c d = (port - e) / eachI a b c d e f g := by
      rw [Int.add_comm, Int.add_mul_emod_self_right, Int.emod_eq_of_lt k0 h4]
    refine ⟨h5, ?_, ?_, ?_⟩
    · unfold baseI; exact d1
    · unfold baseI baseFrom
      show e + _ % nI a b c d * _ ≤ port
      rw [d2]
      have := Int.ediv_mul_le (port - e) (show eachI a b c d e f g ≠ 0 by omega)
      omega
    · unfold baseI baseFrom
      show port ≤ e + _ % nI a b c d * _ + _ - 1
      rw [d2]
      have := Int.lt_ediv_add_one_mul_self (port - e) (show 0 < eachI a b c d e f g by omega)
      rw [Int.add_mul, Int.one_mul] at this
      omega
  · exact absurd rfl hw

/-- ports of blocks are nobody's own -/
theorem who_blk {at' port : Int} (hp : f - g + 1 ≤ port) : whoI a b c d e f g h at' port = -1 := by
  unfold whoI
  rw [if_neg]
  rintro ⟨hf, h0, h1, h2, h3, h4, h5⟩
  have F := fitB_spec hf
  have he := F.each
  have hn : nI a b c d * eachI a b c d e f g ≤ port - e := by have := he.2; show ratI _ _ * _ ≤ _; omega
  have := (Int.le_ediv_iff_mul_le (c := eachI a b c d e f g) (by omega)).2 hn
  omega

noncomputable def whichI (a b c d e f g h at' port : Int) : Int :=
  if fitB a b c d e f g h = true ∧ 0 ≤ at' ∧ at' < sizeI c d ∧ f - g + 1 ≤ port ∧ port ≤ f ∧ (port - (f - g + 1)) / h < g / h then (port - (f - g + 1)) / h else -1

theorem f26_eq (at' port : Int) : f26 a b c d e f g h at' port = some (whichI a b c d e f g h at' port, ()) := by
  unfold f26
  rw [f27_eq]
  simp only [Option.bind_some]
  cases hf : fitB a b c d e f g h with
  | false =>
    have : whichI a b c d e f g h at' port = -1 := by unfold whichI; rw [if_neg (by rw [hf]; simp)]
    rw [this]; rfl
  | true =>
  have F := fitB_spec hf
  have := F.g1
  have := F.g2
  have := F.hi
  have := F.lo1
  have hh1 := F.h1
  simp only [Bool.not_true, cond_false]
  by_cases h0 : at' < 0
  · have : whichI a b c d e f g h at' port = -1 := by unfold whichI; rw [if_neg (by omega)]
    rw [decide_eq_true h0, this]; rfl
  rw [decide_eq_false h0, f34_eq]
  simp only [cond_false, Option.bind_some]
  by_cases h1 : sizeI c d ≤ at'
  · have : whichI a b c d e f g h at' port = -1 := by unfold whichI; rw [if_neg (by omega)]
    rw [decide_eq_true h1, this]; rfl
  rw [decide_eq_false h1, w64 (x := f - g) (by omega) (by omega), w64 (x := f - g + 1) (by omega) (by omega)]
  simp only [cond_false]
  by_cases h2 : port < f - g + 1
  · have : whichI a b c d e f g h at' port = -1 := by unfold whichI; rw [if_neg (by omega)]
    rw [decide_eq_true h2, this]; rfl
  rw [decide_eq_false h2]
  simp only [cond_false]
  by_cases h3 : f < port
  · have : whichI a b c d e f g h at' port = -1 := by unfold whichI; rw [if_neg (by omega)]
    rw [decide_eq_true h3, this]; rfl
  rw [decide_eq_false h3, decide_eq_false (show ¬ h = 0 by omega), f13_eq, hf]
  simp only [cond_false, Bool.not_false, cond_true, Option.bind_some, if_true]
  have t1 : Int.tdiv (port - (f - g + 1)) h = (port - (f - g + 1)) / h := Int.tdiv_eq_ediv_of_nonneg (by omega)
  have k0 : 0 ≤ (port - (f - g + 1)) / h := Int.ediv_nonneg (by omega) (by omega)
  have k1 : (port - (f - g + 1)) / h ≤ port - (f - g + 1) := Int.ediv_le_self _ (by omega)
  rw [w64 (x := port - (f - g + 1)) (by omega) (by omega), t1, w64 (x := (port - (f - g + 1)) / h) (by omega) (by omega)]
  unfold whichI
  by_cases h4 : (port - (f - g + 1)) / h < g / h
  · rw [decide_eq_true h4, if_pos ⟨hf, by omega, by omega, by omega, by omega, h4⟩]; rfl
  · rw [decide_eq_false h4, if_neg (fun hh => h4 hh.2.2.2.2.2)]; rfl

theorem which_blk {at' blk port : Int} (hb : isBlk a b c d e f g h at' blk = true) (h2 : (blkI f g h at' blk).2.1 ≤ port) (h3 : port ≤ (blkI f g h at' blk).2.2) : whichI a b c d e f g h at' port = blk ∧ f - g + 1 ≤ port := by
  unfold isBlk at hb
  simp only [Bool.and_eq_true, decide_eq_true_eq] at hb
  have F := fitB_spec hb.1
  obtain ⟨q1, q2⟩ := F.block hb.2.2.1 hb.2.2.2
  have hh := F.h1
  unfold blkI at h2 h3
  simp only at h2 h3
  have hk : (port - (f - g + 1)) / h = blk := by
    have hh2 : blk * h ≤ port - (f - g + 1) := by omega
    have hh3 : port - (f - g + 1) < (blk + 1) * h := by rw [Int.add_mul, Int.one_mul]; omega
    have h4 := (Int.le_ediv_iff_mul_le (c := h) (by omega)).2 hh2
    have h5 := (Int.ediv_lt_iff_lt_mul (c := h) (by omega)).2 hh3
    omega
  refine ⟨?_, by omega⟩
  unfold whichI
  rw [if_pos ⟨hb.1, hb.2.1.1, hb.2.1.2, by omega, by omega, by rw [hk]; exact hb.2.2.2⟩, hk]

theorem which_spec {at' port : Int} (hw : whichI a b c d e f g h at' port ≠ -1) : (blkI f g h at' (whichI a b c d e f g h at' port)).2.1 ≤ port ∧ port ≤ (blkI f g h at' (whichI a b c d e f g h at' port)).2.2 := by
  unfold whichI at hw ⊢
  split at hw
  · rename_i hc
    rw [if_pos hc]
    obtain ⟨hf, h0, h1, h2, h3, h4⟩ := hc
    have F := fitB_spec hf
    have hh := F.h1
    unfold blkI
    simp only
    have k1 := Int.ediv_mul_le (port - (f - g + 1)) (show h ≠ 0 by omega)
    have k2 := Int.lt_ediv_add_one_mul_self (port - (f - g + 1)) (show 0 < h by omega)
    rw [Int.add_mul, Int.one_mul] at k2
    omega
  · exact absurd rfl hw
end
end Go.Proofs.Zz
