/- The row of a law: out of its contract, and its truth at all data. -/
import Derived.Test.YtipajaocggpahaaGreatSym21

import Derived.ProofKit

namespace Go.Sy
open Go Go.RowKit Go.WideShapes Go.ChangeShapes
set_option linter.unusedSimpArgs false
set_option linter.unusedVariables false

theorem trod_len {H : Type} {enc : TypeId × Value → H} {P : Program} {W : World} {b : Nat} {sp : Nat → Bool} {held : Bool} : ∀ {ts : List TypeId} {vs : List Value} {ds : List (DataW H)} {ps : List MemPlace},
    DataW.TrodAll enc P W b sp held ts vs ds ps → ds.length = ts.length
  | [], [], [], _, _ => rfl
  | _ :: ts, _ :: vs, _ :: ds, _, h => by obtain ⟨p, q, _, h2, _⟩ := h; simp [trod_len h2]
  | [], [], _ :: _, _, h => by cases h
  | [], _ :: _, _, _, h => by cases h
  | _ :: _, [], _, _, h => by cases h
  | _ :: _, _ :: _, [], _, h => by cases h

/-- The wrap: what is laid, the shape of the world, and the arguments. -/
theorem law_lifted [Glob] {H : Type} {enc : TypeId × Value → H} {C : Checked} {os : Os} {k : FuncId} {fn : Func} {s : ChangeSpec} {X : World → Array Value → Prop} {Ts : List Ty} {F : Args Ts → Option (Res [.val .bool])} {ts : List TypeId} {tb : TypeId}
    (hX : ∀ (w w' : World) (args : Array Value), w.heap = w'.heap → X w args → X w' args)
    (own : ownKnob C.prog.godebug = none) (started : os.Started) (noInit : C.prog.inits.idxOf? k = none) (hfn : C.prog.funcs[k]? = some fn)
    (witness : ∃ (w : World) (tape : Tape) (i : Input), w.os = os ∧ (w.forCall tape i).Shaped C.prog ∧ i.vars = [] ∧ Input.okWide C.prog (w.forCall tape i) .any w.heap.size k i ∧
      ((s.pre enc C.prog fn [] false (w.forCall tape i).memory i.args ∧ X (w.forCall tape i).memory i.args) ∧ sizedMet enc C.prog fn (OpenSpec.ofChange s) false (w.forCall tape i).memory i.args) ∧ ({} : Assume).holds C.prog (lone (Frame.enter C.prog k i.args .normal) [] (w.forCall tape i)))
    (hg : ∀ (W : World) (args : Array Value), W.ShapedOpen C.prog → X W args → Glob.pre (allS W))
    (hl : laidOutB C.prog = true) (hc : (Con.mk Ts [.val .bool] F).OK C.prog k)
    (hps : fn.params = ts.toArray) (hrs : fn.resultTypes = #[tb]) (hb : C.prog.underlying tb = some .bool)
    (ht : ∀ t ∈ ts, C.prog.readableRec t = true ∧ t < C.prog.types.size) (hd : decs ts Ts C.prog)
    (hv : s.vars = []) (hs : ∀ ds : List (DataW H), ds.length = ts.length → s.fn H ds = { results := [.lit (.bool true)], args := ds })
    (hp : ∀ x : Args Ts, WfArgs Ts x → F x = some (true, ())) :
    ReturnsInHanded {} C os k .any (fun w args => (s.pre enc C.prog fn [] false w args ∧ X w args) ∧ sizedMet enc C.prog fn (OpenSpec.ofChange s) false w args) (s.post enc C.prog fn false true false false) := by
  refine returnsInHanded_of_calls own started noInit witness ?_
  intro w tape i _ hsh _ hok hpre hholds
  obtain ⟨_, _, _, fn', hfn', _, _, _, _, hval⟩ := hok
  have e : fn' = fn := Option.some.inj (hfn'.symm.trans hfn)
  subst e
  obtain ⟨⟨⟨ds, gs, before, hw, _⟩, hx⟩, _⟩ := hpre
  have hw' := DataW.Whole.of_heap (w' := w.forCall tape i) (by rfl) hw
  have hW := hw'
  obtain ⟨p, q, hA, hV, rfl, _, _⟩ := hw'
  rw [hv] at hV
  obtain ⟨rfl, rfl⟩ := trodVars_none hV
  have hpl : fn'.params.toList = ts := by rw [hps]
  rw [hpl] at hA
  have hlen := trod_len hA
  refine (law_calls (enc := enc) hl hc (hg _ i.args hsh (hX _ _ _ (by rfl) hx)) hA (fun j t v h1 h2 => hval j t v (by rw [hps]; simpa using h1) (by simpa using h2)) ht hd hp).mono ?_
  rintro e W' ⟨rfl, bel, back⟩
  refine ChangeSpec.post_blind ?_
  refine ⟨ds, [], _, [], p, [], hW, ?_, ?_, ?_, bel.frame _, fun h => by cases h⟩
  · rw [List.append_nil, hs ds hlen, hrs]; exact trodAll_mk1 (shut_bool hb true)
  · rw [List.append_nil, hs ds hlen, hpl]; exact back
  · rw [List.append_nil, hs ds hlen, hv]; rfl
end Go.Sy
