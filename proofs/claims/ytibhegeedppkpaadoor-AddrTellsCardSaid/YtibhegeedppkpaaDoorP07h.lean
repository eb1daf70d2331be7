/- The document's answer of chapter 07: texts read; AddrTells. -/
import Derived.Test.YtibhegeedppkpaaDoorP07g
namespace Go.Proofs.Zz
open Go Go.Sy Go.Txt
set_option linter.unusedSimpArgs false
set_option linter.unusedVariables false

def sum4 (a b c d : Int) : Int := 16777216 * a + 65536 * b + 256 * c + d

theorem wrap4 {a b c d : Int} (ha : 0 ≤ a ∧ a ≤ 255) (hb : 0 ≤ b ∧ b ≤ 255) (hc : 0 ≤ c ∧ c ≤ 255) (hd : 0 ≤ d ∧ d ≤ 255) :
    IntKind.wrap .i64 ((IntKind.wrap .i64 ((IntKind.wrap .i64 ((IntKind.wrap .i64 (16777216 * a)) + (IntKind.wrap .i64 (65536 * b)))) + (IntKind.wrap .i64 (256 * c)))) + d) = sum4 a b c d := by
  rw [w64 (x := 16777216 * a) (by omega) (by omega), w64 (x := 65536 * b) (by omega) (by omega), w64 (x := 256 * c) (by omega) (by omega), w64 (x := _ + 65536 * b) (by omega) (by omega), w64 (x := _ + 256 * c) (by omega) (by omega), w64 (by omega) (by omega)]
  rfl

theorem rd_eq (l : List Int) (i : Nat) : rd (.int .i64) l i = l.getD i 0 := rfl
theorem rd0 (a : Int) (l : List Int) : rd (.int .i64) (a :: l) 0 = a := rfl
theorem rd1 (a b : Int) (l : List Int) : rd (.int .i64) (a :: b :: l) 1 = b := rfl
theorem rd2 (a b c : Int) (l : List Int) : rd (.int .i64) (a :: b :: c :: l) 2 = c := rfl
theorem rd3 (a b c d : Int) (l : List Int) : rd (.int .i64) (a :: b :: c :: d :: l) 3 = d := rfl
theorem rd4 (a b c d e : Int) (l : List Int) : rd (.int .i64) (a :: b :: c :: d :: e :: l) 4 = e := rfl

/-- the numbers of a text as a list -/
def numl (l : B) : List Int := (nums l).1 ++ [(nums l).2]
theorem numl_ok (l : B) : ∀ x ∈ numl l, 0 ≤ x ∧ x < 10000 := by
  intro x hx
  rcases List.mem_append.1 hx with hx | hx
  · exact (nums_ok l).2 x hx
  · rw [List.mem_singleton.1 hx]; exact (nums_ok l).1

theorem f21_eq (s : ByteArray) (hs : s.size ≤ 60) : f21 s = some (outA (addrO (bs s))) := by
  unfold f21
  rw [f34_eq s hs]
  simp only [Option.bind_some]
  have hok := numl_ok (bs s)
  have key : ∀ l : List Int, numl (bs s) = l → _ := fun l h => h
  change (cond (!(decide ((((numl (bs s)).length : Nat) : Int) = 4))) _ _) = _
  by_cases h4 : (numl (bs s)).length = 4
  case neg =>
    rw [decide_eq_false (by omega)]
    simp only [Bool.not_false, cond_true]
    cases ha : addrO (bs s) with
    | none => rfl
    | some a =>
      exfalso
      obtain ⟨h1, h2⟩ := text_addr ha
      apply h4
      unfold numl
      rw [← h2, nums_text4 a h1]; rfl
  rw [decide_eq_true (by omega)]
  simp only [Bool.not_true, cond_false]
  change (cond (decide (0 < (((numl (bs s)).length : Nat) : Int))) (cond (decide (0 < (numl (bs s)).length)) (cond (decide (255 < (rd (.int .i64) (numl (bs s)) 0))) _ _) _) _) = _
  generalize hl : numl (bs s) = l at h4 hok
  match l, h4 with
  | [a, b, c, d], _ =>
    have ha := hok a (by simp)
    have hb := hok b (by simp)
    have hc := hok c (by simp)
    have hd := hok d (by simp)
    have hl' : (nums (bs s)).1 ++ [(nums (bs s)).2] = [a, b, c, d] := hl
    simp only [hl']
    have e4 : ([a, b, c, d] : List Int).length = 4 := rfl
    simp only [e4, rd_eq, List.getD_cons_zero, List.getD_cons_succ]
    have q0 : decide ((0 : Int) < ((4 : Nat) : Int)) = true := rfl
    have q1 : decide ((1 : Int) < ((4 : Nat) : Int)) = true := rfl
    have q2 : decide ((2 : Int) < ((4 : Nat) : Int)) = true := rfl
    have q3 : decide ((3 : Int) < ((4 : Nat) : Int)) = true := rfl
    have r0 : decide (0 < 4) = true := rfl
    have r1 : decide (1 < 4) = true := rfl
    have r2 : decide (2 < 4) = true := rfl
    have r3 : decide (3 < 4) = true := rfl
    simp only [q0, q1, q2, q3, r0, r1, r2, r3, cond_true]
    cases hO : addrO (bs s) with
    | some n =>
      obtain ⟨h1, h2⟩ := text_addr hO
      have hn := nums_text4 n h1
      rw [h2] at hn
      rw [hn] at hl'
      simp only [List.cons_append, List.nil_append, List.cons.injEq, and_true] at hl'
      obtain ⟨ea, eb, ec, ed⟩ := hl'
      have c0 : ¬ 255 < a := by omega
      have c1 : ¬ 255 < b := by omega
      have c2 : ¬ 255 < c := by omega
      have c3 : ¬ 255 < d := by omega
      rw [wrap4 (by omega) (by omega) (by omega) (by omega)]
      have es : sum4 a b c d = (n : Int) := by unfold sum4; omega
      have ht : textI (n : Int) = bs s := by unfold textI; rw [if_pos (by omega)]; exact h2
      simp only [c0, c1, c2, c3, decide_false, cond_false, es, f27_eq, Option.bind_some, str_eq, bs_sb, ht, decide_true, Bool.not_true]
      rfl
    | none =>
      refine cond_of (fun _ => rfl) fun c0 => ?_
      refine cond_of (fun _ => rfl) fun c1 => ?_
      refine cond_of (fun _ => rfl) fun c2 => ?_
      refine cond_of (fun _ => rfl) fun c3 => ?_
      have c0 : ¬ (255 : Int) < a := of_decide_eq_false c0
      have c1 : ¬ (255 : Int) < b := of_decide_eq_false c1
      have c2 : ¬ (255 : Int) < c := of_decide_eq_false c2
      have c3 : ¬ (255 : Int) < d := of_decide_eq_false c3
      rw [wrap4 (by omega) (by omega) (by omega) (by omega)]
      simp only [f27_eq, Option.bind_some, str_eq, bs_sb]
      have hne : ¬ textI (sum4 a b c d) = bs s := by
        intro h
        unfold textI at h
        have hr : 0 ≤ sum4 a b c d ∧ sum4 a b c d < 4294967296 := by unfold sum4; omega
        rw [if_pos hr] at h
        rw [← h, addr_text _ (by omega)] at hO
        simp at hO
      rw [decide_eq_false hne]; rfl

theorem f22_eq (s : ByteArray) (hs : s.size ≤ 60) : f22 s = some (outP (prefO (bs s))) := by
  unfold f22
  rw [f34_eq s hs]
  simp only [Option.bind_some]
  have hok := numl_ok (bs s)
  change (cond (!(decide ((((numl (bs s)).length : Nat) : Int) = 5))) _ _) = _
  by_cases h4 : (numl (bs s)).length = 5
  case neg =>
    rw [decide_eq_false (by omega)]
    simp only [Bool.not_false, cond_true]
    cases ha : prefO (bs s) with
    | none => rfl
    | some x =>
      exfalso
      obtain ⟨n, k⟩ := x
      obtain ⟨h1, h2⟩ := text_pref ha
      apply h4
      unfold textP at h2
      rw [if_pos h1] at h2
      have hk := h1.2.1
      have hn := h1.2.2.2.1
      simp only [Int.toNat_natCast] at h2
      unfold numl
      rw [← h2, nums_textP n k (by omega) (by omega)]; rfl
  rw [decide_eq_true (by omega)]
  simp only [Bool.not_true, cond_false]
  generalize hl : numl (bs s) = l at h4 hok
  match l, h4 with
  | [a, b, c, d, e], _ =>
    have ha := hok a (by simp)
    have hb := hok b (by simp)
    have hc := hok c (by simp)
    have hd := hok d (by simp)
    have he := hok e (by simp)
    have hl' : (nums (bs s)).1 ++ [(nums (bs s)).2] = [a, b, c, d, e] := hl
    simp only [hl']
    have e4 : ([a, b, c, d, e] : List Int).length = 5 := rfl
    simp only [e4, rd_eq, List.getD_cons_zero, List.getD_cons_succ]
    have q0 : decide ((0 : Int) < ((5 : Nat) : Int)) = true := rfl
    have q1 : decide ((1 : Int) < ((5 : Nat) : Int)) = true := rfl
    have q2 : decide ((2 : Int) < ((5 : Nat) : Int)) = true := rfl
    have q3 : decide ((3 : Int) < ((5 : Nat) : Int)) = true := rfl
    have q4 : decide ((4 : Int) < ((5 : Nat) : Int)) = true := rfl
    have r0 : decide (0 < 5) = true := rfl
    have r1 : decide (1 < 5) = true := rfl
    have r2 : decide (2 < 5) = true := rfl
    have r3 : decide (3 < 5) = true := rfl
    have r4 : decide (4 < 5) = true := rfl
    simp only [q0, q1, q2, q3, q4, r0, r1, r2, r3, r4, cond_true]
    have hempty : bs s ≠ [] := by
      intro h
      rw [h] at hl'
      have : (nums []).1 ++ [(nums []).2] = [0] := rfl
      rw [this] at hl'
      simp at hl'
    cases hO : prefO (bs s) with
    | some x =>
      obtain ⟨n, k⟩ := x
      obtain ⟨h1, h2⟩ := text_pref hO
      have hk := h1.2.1
      have hn := h1.2.2.2.1
      have h2' := h2
      unfold textP at h2'
      rw [if_pos h1] at h2'
      simp only [Int.toNat_natCast] at h2'
      have hn' := nums_textP n k (by omega) (by omega)
      rw [h2'] at hn'
      rw [hn'] at hl'
      simp only [List.cons_append, List.nil_append, List.cons.injEq, and_true] at hl'
      obtain ⟨ea, eb, ec, ed, ee⟩ := hl'
      have c0 : ¬ 255 < a := by omega
      have c1 : ¬ 255 < b := by omega
      have c2 : ¬ 255 < c := by omega
      have c3 : ¬ 255 < d := by omega
      rw [wrap4 (by omega) (by omega) (by omega) (by omega)]
      have es : sum4 a b c d = (n : Int) := by unfold sum4; omega
      have e0 : bs (⟨#[]⟩ : ByteArray) = [] := rfl
      simp only [c0, c1, c2, c3, decide_false, cond_false, es, ← ee, f28_eq, Option.bind_some, str_eq, bs_sb, h2, e0, hempty, decide_true, Bool.not_true]
      rfl
    | none =>
      refine cond_of (fun _ => rfl) fun c0 => ?_
      refine cond_of (fun _ => rfl) fun c1 => ?_
      refine cond_of (fun _ => rfl) fun c2 => ?_
      refine cond_of (fun _ => rfl) fun c3 => ?_
      refine cond_of (fun _ => rfl) fun c4 => ?_
      have c0 : ¬ (255 : Int) < a := of_decide_eq_false c0
      have c1 : ¬ (255 : Int) < b := of_decide_eq_false c1
      have c2 : ¬ (255 : Int) < c := of_decide_eq_false c2
      have c3 : ¬ (255 : Int) < d := of_decide_eq_false c3
      rw [wrap4 (by omega) (by omega) (by omega) (by omega)]
      simp only [f28_eq, Option.bind_some, str_eq, bs_sb]
      have hne : ¬ textP (sum4 a b c d) e = bs s := by
        intro h
        by_cases hm : MayP (sum4 a b c d) e
        · rw [← h, pref_text hm] at hO
          simp at hO
        · unfold textP at h
          rw [if_neg hm] at h
          exact hempty h.symm
      rw [decide_eq_false hne]; rfl

theorem law8 (b k b' k' i a : Int) (s : ByteArray) : f8 b k b' k' i a s = some (true, ()) := by
  unfold f8
  rw [f10_eq]
  simp only [Option.bind_some, Bool.not_true, cond_false]
  by_cases hsz : 60 < ((s.size : Nat) : Int)
  · simp [hsz]
  have hs : s.size ≤ 60 := by omega
  rw [decide_eq_false hsz, f20_eq b k i (fun h => h.2.2.1), f24_eq, f26_eq, f23_eq, f25_eq, f21_eq s hs, f22_eq s hs, f11_eq s (by omega), f13_eq s (by omega), f27_eq, f28_eq, f12_eq, f14_eq, f15_eq, f17_eq, f18_eq, f16_eq, f19_eq]
  simp only [cond_false, Option.bind_some, decide_true, beq_self_eq_true, Bool.not_true, Bool.and_self, cond_true]
end Go.Proofs.Zz
