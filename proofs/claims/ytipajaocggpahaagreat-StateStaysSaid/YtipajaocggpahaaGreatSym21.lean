/- A law's row out of its contract over data: what the arguments read as, and what stays behind the call. -/
import Derived.Test.YtipajaocggpahaaGreatSym20
import Derived.SizedLaws
namespace Go.Sy
open Go Go.RowKit Go.WideShapes
set_option linter.unusedSimpArgs false
set_option linter.unusedVariables false

def decs : List TypeId → List Ty → Program → Prop
  | [], [], _ => True
  | t :: ts, T :: Ts, P => tyOf P 9 t = some T ∧ decs ts Ts P
  | _, _, _ => False

section
variable {P : Program} {H : Type} {enc : TypeId × Value → H}

theorem chain2_agg : ∀ {l : List (Option Ty)} {ty : Ty}, tyChain l = some ty → ty.isAgg = true := by
  intro l ty h
  unfold tyChain at h
  split at h
  · cases h; rfl
  · rename_i hne
    match l, h, hne with
    | [], h, _ => simp [tyChain2] at h
    | [none], h, _ => simp [tyChain2] at h
    | [some a], h, hne => exact absurd rfl (hne a)
    | none :: _ :: _, h, _ => simp [tyChain2] at h
    | some a :: b :: r, h, _ =>
      simp only [tyChain2] at h
      split at h
      · cases h; rfl
      · simp at h

theorem tyOf_shape {W : World} {base n : Nat} {t : TypeId} {ty : Ty} {v : Value} (h : tyOf P n t = some ty) (hv : Value.okWide P W .any base t v) :
    (ty.isAgg = true → ∃ cs, v = .agg cs) ∧ (ty.isAgg = false → v.cells.toList = [v]) := by
  cases n with
  | zero => simp [tyOf] at h
  | succ n =>
    simp only [tyOf] at h
    split at h
    · rename_i k hu
      cases h
      obtain ⟨n, rfl⟩ := okWide_int hu hv
      exact ⟨fun h => by simp [Ty.isAgg] at h, fun _ => rfl⟩
    · rename_i hu
      cases h
      obtain ⟨n, rfl⟩ := okWide_bool hu hv
      exact ⟨fun h => by simp [Ty.isAgg] at h, fun _ => rfl⟩
    · rename_i hu
      cases h
      obtain ⟨n, rfl⟩ := okWide_string hu hv
      exact ⟨fun h => by simp [Ty.isAgg] at h, fun _ => rfl⟩
    · rename_i e hu
      split at h
      · cases h
        obtain ⟨a, l, c, rfl⟩ := okWide_slice hu hv
        exact ⟨fun h => by simp [Ty.isAgg] at h, fun _ => rfl⟩
      · simp at h
    · rename_i fs hu
      obtain ⟨cs, rfl, _⟩ := okWide_struct hu hv
      exact ⟨fun _ => ⟨cs, rfl⟩, fun h0 => by rw [chain2_agg h] at h0; simp at h0⟩
    · simp at h

theorem args_Rd (hl : laidOutB P = true) {W : World} {base : Nat} : ∀ {ts : List TypeId} {Ts : List Ty} {vs : List Value} {ds : List (DataW H)} {ps : List MemPlace},
    DataW.TrodAll enc P W 0 (fun _ => true) true ts vs ds ps → (∀ (j : Nat) t v, ts[j]? = some t → vs[j]? = some v → Value.okWide P W .any base t v) →
    (∀ t ∈ ts, t < P.types.size) → decs ts Ts P → ∃ x : Args Ts, RdArgs (allS W) Ts x vs ∧ WfArgs Ts x
  | [], [], [], [], ps, h, _, _, _ => ⟨(), rfl, trivial⟩
  | t :: ts, T :: Ts, v :: vs, d :: ds, ps, h, hv, ht, hd => by
    obtain ⟨p, q, ⟨fuel, h1⟩, h2, rfl⟩ := h
    obtain ⟨y, k1, k2⟩ := args_Rd hl h2 (fun j t v => hv (j + 1) t v) (fun t h => ht t (by simp [h])) hd.2
    obtain ⟨x, m1, m2⟩ := trod_Rd hl 9 fuel t _ d p T (ht t (by simp)) h1 hd.1
    obtain ⟨s1, s2⟩ := tyOf_shape hd.1 (hv 0 t v rfl rfl)
    refine ⟨(x, y), ⟨v, vs, rfl, ?_, k1⟩, m2, k2⟩
    unfold RdV
    cases ha : T.isAgg with
    | true =>
      obtain ⟨cs, rfl⟩ := s1 ha
      exact ⟨cs, rfl, m1⟩
    | false =>
      rw [s2 ha] at m1
      exact m1
  | [], [], _ :: _, _, _, h, _, _, _ => by cases h
  | [], [], [], _ :: _, _, h, _, _, _ => by cases h
  | _ :: _, _ :: _, [], _, _, h, _, _, _ => by cases h
  | _ :: _, _ :: _, _ :: _, [], _, h, _, _, _ => by cases h
  | [], _ :: _, _, _, _, _, _, _, hd => by cases hd
  | _ :: _, [], _, _, _, _, _, _, hd => by cases hd

theorem trodAll_lt {W : World} {sp : Nat → Bool} {held : Bool} : ∀ {ts : List TypeId} {vs : List Value} {ds : List (DataW H)} {ps : List MemPlace},
    DataW.TrodAll enc P W 0 sp held ts vs ds ps → ∀ x ∈ ps, x.block < W.heap.size
  | [], [], [], ps, h, x, hx => by cases h; simp at hx
  | t :: ts, v :: vs, d :: ds, ps, h, x, hx => by
    obtain ⟨p, q, ⟨m, hm⟩, h2, rfl⟩ := h
    rcases List.mem_append.1 hx with hx | hx
    · exact DataW.trod_lt m _ _ _ hm x hx
    · exact trodAll_lt h2 x hx
  | [], [], _ :: _, _, h, _, _ => by cases h
  | [], _ :: _, _, _, h, _, _ => by cases h
  | _ :: _, [], _, _, h, _, _ => by cases h
  | _ :: _, _ :: _, [], _, h, _, _ => by cases h

/-- What a law that is true at all data comes to, at arguments that read as data. -/
theorem law_calls [Glob] {k : FuncId} {Ts : List Ty} {f : Args Ts → Option (Res [.val .bool])} {W : World} {base : Nat} {ts : List TypeId} {args : Array Value} {ds : List (DataW H)} {ps : List MemPlace}
    (hl : laidOutB P = true) (hc : (Con.mk Ts [.val .bool] f).OK P k) (hg : Glob.pre (allS W))
    (h : DataW.TrodAll enc P W 0 (fun _ => true) true ts args.toList ds ps) (hv : ∀ (j : Nat) t v, ts[j]? = some t → args.toList[j]? = some v → Value.okWide P W .any base t v)
    (ht : ∀ t ∈ ts, P.readableRec t = true ∧ t < P.types.size) (hd : decs ts Ts P) (hp : ∀ x : Args Ts, WfArgs Ts x → f x = some (true, ())) :
    Calls P k args W fun e W' => e = .returned (.bool true) ∧ Below W.heap.size W W' ∧ DataW.TrodAll enc P W' 0 (fun b => decide (b < W.heap.size)) true ts args.toList ds ps := by
  obtain ⟨x, h1, h2⟩ := args_Rd hl h hv (fun t h => (ht t h).2) hd
  have := hc x (true, ()) (hp x h2) (allS W) W args.toList (fun b o h => h) hg h1
  rw [Array.toArray_toList] at this
  refine this.mono ?_
  rintro e W' ⟨us, S', os, rfl, hb, _, _, _, hres, _⟩
  obtain ⟨v, r, o, p, rfl, _, hv', hr'⟩ := hres
  obtain ⟨rfl, _⟩ := hr'
  refine ⟨?_, hb, args_stay hl hb ht h (trodAll_lt h) _ (fun x hx => decide_eq_true (trodAll_lt h x hx))⟩
  unfold RdRV at hv'
  simp only [RTy.isAgg, Ty.isAgg, Bool.false_eq_true, if_false, RdR, Rd] at hv'
  obtain ⟨h, _⟩ := hv'
  cases h
  rfl
end
end Go.Sy
