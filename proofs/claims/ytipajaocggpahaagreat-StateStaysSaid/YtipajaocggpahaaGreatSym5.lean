/- That the model's operations do as the abstract ones. -/
import Derived.Test.YtipajaocggpahaaGreatSym4
namespace Go.Sy
open Go Go.RowKit
set_option linter.unusedSimpArgs false
set_option linter.unusedVariables false

section
variable [Glob] {P : Program} {w w0 : World} {μ : Mu} {S : Stable} {H Hh : Heap} {B : Nat}

def Done (P : Program) (w w0 : World) (μ : Mu) (S : Stable) (H : Heap) (B : Nat) (s : Sem Next) (out : Out) : Prop :=
  ∃ n u w' μ', s.run P w = .ok n w' ∧ Gives n u ∧ Rel μ' S (out.heap H) B w0 w' ∧ Ext μ S H μ' S (out.heap H) ∧ VR μ' S (out.heap H) out.res u

theorem doneVal (R : Rel μ S H B w0 w) {s : Sem Value} {u : Value} {c : Bool} {v : AV} (hs : s.run P w = .ok u w) (hv : VR μ S H v u) :
    Done P w w0 μ S H B (do pure (.value (← s))) (.val c v) :=
  ⟨.value u, u, w, μ, by simp only [Sem.run_bind, hs, Result.andThen_ok, Sem.run_pure], .inl rfl, R, Ext.refl, hv⟩

theorem box_new (R : Rel μ S H B w0 w) {i : Nat} (hi : H i = none) (t : TypeId) {cs : List AV} {v : Value} (hc : VRs μ S H cs v.cells.toList) :
    Rel (upd μ i (some ⟨some w.heap.size, 0⟩)) S (upd H i (some (.box t cs))) B w0 (w.alloc (.cells v.cells t)) ∧
    Ext μ S H (upd μ i (some ⟨some w.heap.size, 0⟩)) S (upd H i (some (.box t cs))) ∧
    VR (upd μ i (some ⟨some w.heap.size, 0⟩)) S (upd H i (some (.box t cs))) (.ptr i 0) (.pointer (some ⟨w.heap.size, 0, none⟩)) := by
  have hm : μ i = none := by
    have := R.dom i; rw [hi] at this
    cases h : μ i with
    | none => rfl
    | some _ => rw [h] at this; simp at this
  have E : Ext μ S H (upd μ i (some ⟨some w.heap.size, 0⟩)) S (upd H i (some (.box t cs))) := Ext.new hm
  have hS : S w.heap.size = none := by
    cases h : S w.heap.size with
    | none => rfl
    | some o => have := R.st_lt h; omega
  obtain ⟨h1, h2⟩ := R.new hi (.cells v.cells t) (.box t cs) ⟨some w.heap.size, 0⟩ rfl
    ⟨w.heap.size, v.cells, rfl, R.size, hS, alloc_heap_new _ _, VRs_mono E _ _ hc⟩
  refine ⟨h1, h2, ?_⟩
  simp only [VR]
  exact ⟨w.heap.size, 0, upd_same _ _ _, fun t e g xs h => by rw [upd_same] at h; simp at h, rfl⟩

omit [Glob] in
theorem newRow_run (t : TypeId) (cs : Array Value) : (newRow t cs).run P w = .ok ⟨w.heap.size, 0, none⟩ (w.alloc (.cells cs t)) := by
  simp only [newRow, Sem.run_bind, run_newObj, Result.andThen_ok, Sem.run_pure]; rfl

theorem oAlloc_ok (R : Rel μ S H B w0 w) {id : Nat} {t : TypeId} {out : Out} (h : oAlloc P id t = some out) (hf : out.fresh H = true) :
    Done P w w0 μ S H B (do pure (.value (← Instr.alloc t true (.tuple #[])))) out := by
  unfold oAlloc at h
  split at h
  · rename_i i hi
    split at h
    · rename_i z hz
      split at h
      · rename_i cs hcs
        cases h
        have hid : H id = none := by simpa [Out.fresh] using hf
        have hc := cells_VRs (VR_ofV (μ := μ) (S := S) (H := H) z) hcs
        obtain ⟨h1, h2, h3⟩ := box_new R hid t hc
        refine ⟨_, _, _, _, ?_, .inl rfl, h1, h2, h3⟩
        simp only [Instr.alloc, newVar, Sem.run_bind, rZero hi hz, Result.andThen_ok, newRow_run, Sem.run_pure]
      · simp at h
    · simp at h
  · simp at h

theorem oBox_ok (R : Rel μ S H B w0 w) {id : Nat} {t : TypeId} {x : AV} {v : Value} {out : Out} (hx : VR μ S H x v) (h : oBox id t x = some out) (hf : out.fresh H = true) :
    Done P w w0 μ S H B (do pure (.value (← Instr.box t v))) out := by
  unfold oBox at h
  split at h
  · rename_i cs hcs
    cases h
    have hid : H id = none := by simpa [Out.fresh] using hf
    obtain ⟨h1, h2, h3⟩ := box_new R hid t (cells_VRs hx hcs)
    refine ⟨_, _, _, _, ?_, .inl rfl, h1, h2, h3⟩
    simp only [Instr.box, newVar, Sem.run_bind, Result.andThen_ok, newRow_run, Sem.run_pure]
  · simp at h

theorem box_cells (R : Rel μ S H B w0 w) {i : Nat} {t : TypeId} {cs : List AV} (hi : H i = some (.box t cs)) {b c : Nat} (hm : μ i = some ⟨some b, c⟩) :
    ∃ vs : Array Value, w.heap[b]? = some (.cells vs t (0, 0)) ∧ VRs μ S H cs vs.toList := by
  obtain ⟨l, h1, h2⟩ := R.obj i _ hi
  obtain ⟨b', vs, e, _, _, h4, h5⟩ := h2
  have : l = ⟨some b, c⟩ := Option.some.inj (h1.symm.trans hm)
  subst this
  cases e
  exact ⟨vs, h4, h5⟩

omit [Glob] in
theorem cell_of {b : Nat} {vs : Array Value} {t : TypeId} {f : Nat × Nat} (h : w.heap[b]? = some (.cells vs t f)) (j : Nat) : w.cell? ⟨b, j, none⟩ = vs[j]? := by
  simp [World.cell?, h]

theorem cellS_world (R : Rel μ S H B w0 w) {a : Addr} {v : Value} (h : cellS S a = some v) : w.cell? a = some v := by
  unfold cellS at h
  cases hS : S a.block with
  | none => simp [hS] at h
  | some o =>
    have := R.st _ _ hS
    unfold World.cell?
    rw [this]; rw [hS] at h; exact h

theorem row_at (R : Rel μ S H B w0 w) {i : Nat} {t : TypeId} {e : Ty} {g : Nat} {xs : List e.T} (hi : H i = some (.row t e g xs)) {l : Lc} (hm : μ i = some l) {b : Nat} (hb : l.blk = some b) {k : Nat} (hk : k < xs.length) :
    ∃ c, Rd S e (rd e xs k) c ∧ ∀ m v, c[m]? = some v → w.cell? ⟨b, k * e.size + m, none⟩ = some v := by
  obtain ⟨l', h1, h2⟩ := R.obj i _ hi
  have : l' = l := Option.some.inj (h1.symm.trans hm)
  subst this
  rcases h2.2 with h3 | ⟨b', cs, e1, _, _, h4, _, h6⟩
  · rw [h3.1] at hb; simp at hb
  · have : b' = b := Option.some.inj (e1.symm.trans hb)
    subst this
    obtain ⟨c, k1, k2⟩ := h6 k (rd e xs k) (by unfold rd; rw [List.getD_eq_getElem?_getD, List.getElem?_eq_getElem hk]; rfl)
    refine ⟨c, k1, fun m v hv => ?_⟩
    rw [cell_of h4]; exact k2 m v hv

theorem row_blk (R : Rel μ S H B w0 w) {i : Nat} {t : TypeId} {e : Ty} {g : Nat} {xs : List e.T} (hi : H i = some (.row t e g xs)) {l : Lc} (hm : μ i = some l) {k : Nat} (hk : k < xs.length) :
    ∃ b, l.blk = some b := by
  obtain ⟨l', h1, h2⟩ := R.obj i _ hi
  have : l' = l := Option.some.inj (h1.symm.trans hm)
  subst this
  rcases h2.2 with h3 | ⟨b', _, e1, _⟩
  · have := h2.1.1; omega
  · exact ⟨b', e1⟩

theorem oLoad_ok (sub : ∀ i o, Hh i = some o → H i = some o) (R : Rel μ S H B w0 w) {t : TypeId} {x : AV} {v : Value} {out : Out} (hx : VR μ S H x v) (h : oLoad P Hh t x = some out) (hk : out.ok = true) :
    Done P w w0 μ S H B (do pure (.value (← Instr.loadAt t v))) out := by
  unfold oLoad at h
  split at h
  · rename_i i off
    split at h
    · rename_i t' cs hH
      split at h
      · rename_i r hr
        cases h
        simp only [VR] at hx
        obtain ⟨b, c, hm, _, rfl⟩ := hx
        obtain ⟨vs, hb, hvs⟩ := box_cells R (sub _ _ hH) hm
        obtain ⟨u, hu, hv⟩ := cut_loadVar (P := P) (w := w) (ad := ⟨b, 0, none⟩) hvs (fun j u hj => by rw [plain_add, Nat.zero_add, cell_of hb]; simpa using hj) hr
        rw [plain_add, Nat.zero_add] at hu
        exact doneVal R (by simp only [Instr.loadAt, Instr.sureAddr, Sem.run_bind, Sem.run_pure, Result.andThen_ok, hu]) hv
      · simp at h
    · simp at h
  · rename_i e y off
    split at h
    · rename_i r hr
      cases h
      simp only [VR] at hx
      obtain ⟨ad, c, h1, h2, rfl⟩ := hx
      obtain ⟨u, hu, hv⟩ := cut_loadVar (P := P) (w := w) (ad := ad) (enc_VRs (μ := μ) (H := H) e y c h1) (fun j u hj => cellS_world R (h2 j u hj)) hr
      exact doneVal R (by simp only [Instr.loadAt, Instr.sureAddr, Sem.run_bind, Sem.run_pure, Result.andThen_ok, hu]) hv
    · simp at h
  · rename_i i g k off
    split at h
    · rename_i t' e g' xs hH
      cases hg : Nat.beq g g' with
      | false => rw [hg] at h; simp at h
      | true =>
        rw [hg] at h
        simp only [cond_true] at h
        split at h
        · rename_i r hr
          cases h
          have hlt : k < xs.length := by simpa [Out.ok] using hk
          have hgg := Nat.eq_of_beq_eq_true hg
          simp only [VR] at hx
          obtain ⟨_, l, hm, h2⟩ := hx
          obtain ⟨b, hb, rfl⟩ := (h2 _ _ _ _ (sub _ _ hH)).2 hgg
          obtain ⟨c, k1, k2⟩ := row_at R (sub _ _ hH) hm hb hlt
          obtain ⟨u, hu, hv⟩ := cut_loadVar (P := P) (w := w) (ad := ⟨b, k * e.size, none⟩) (enc_VRs (μ := μ) (H := H) e _ c k1) (fun j u hj => by rw [plain_add]; exact k2 j u hj) hr
          rw [plain_add] at hu
          exact doneVal R (by simp only [Instr.loadAt, Instr.sureAddr, Sem.run_bind, Sem.run_pure, Result.andThen_ok, hu]) hv
        · simp at h
    · simp at h
  · simp at h

omit [Glob] in
theorem splice_VRs {cs c : List AV} {vs us : List Value} (h : VRs μ S H cs vs) (h' : VRs μ S H c us) (off : Nat) : VRs μ S H (splice cs off c) (vs.take off ++ us ++ vs.drop (off + us.length)) := by
  unfold splice
  rw [VRs_length h']
  exact VRs_append (VRs_append (VRs_take _ h) h') (VRs_drop _ h)

omit [Glob] in
theorem dec_noheap {t : Ty} {as : List AV} {vs : List Value} {x : t.T} {r : List AV} (hv : VRs μ S H as vs) (h : dec noHeap t as = some (x, r)) :
    ∃ cs us, vs = cs ++ us ∧ Rd S t x cs ∧ VRs μ S H r us :=
  dec_Rd (Hh := noHeap) (fun b o h => h) (fun i t e g xs l h => by simp [noHeap] at h) (fun i o h => by simp [noHeap] at h) t as vs x r hv h

omit [Glob] in
theorem decAll_Rd {t : Ty} {as : List AV} {vs : List Value} {x : t.T} (hv : VRs μ S H as vs) (h : decAll noHeap t as = some x) : Rd S t x vs := by
  unfold decAll at h
  split at h
  · rename_i y hd
    cases h
    obtain ⟨cs, us, rfl, h2, h3⟩ := dec_noheap hv hd
    simp only [VRs] at h3
    subst h3
    simpa using h2
  · simp at h

omit [Glob] in
theorem splice_get {α : Type} (l u : List α) (p q : Nat) (hp : p + u.length ≤ l.length) :
    (l.take p ++ u ++ l.drop (p + u.length))[q]? = if q < p then l[q]? else if q < p + u.length then u[q - p]? else l[q]? := by
  have h1 : (l.take p).length = p := by simp; omega
  by_cases a : q < p
  · rw [if_pos a, List.append_assoc, List.getElem?_append_left (by omega), List.getElem?_take, if_pos a]
  · rw [if_neg a, List.append_assoc, List.getElem?_append_right (by omega), h1]
    by_cases b : q < p + u.length
    · rw [if_pos b, List.getElem?_append_left (by omega)]
    · rw [if_neg b, List.getElem?_append_right (by omega), List.getElem?_drop]
      congr 1; omega

theorem oStore_ok (sub : ∀ i o, Hh i = some o → H i = some o) (R : Rel μ S H B w0 w) {t : TypeId} {a x : AV} {va v : Value} {out : Out} (ha : VR μ S H a va) (hx : VR μ S H x v) (h : oStore P Hh t a x = some out) (hk : out.ok = true) :
    Done P w w0 μ S H B (do Instr.storeAt t va v; pure .skip) out := by
  unfold oStore at h
  split at h
  · rename_i i off
    split at h
    · rename_i t' cs hH
      split at h
      · rename_i c inf hc hinf
        obtain ⟨hcond, rfl⟩ := cond_some h
        simp only [Bool.and_eq_true] at hcond
        obtain ⟨⟨c1, c2⟩, c3⟩ := hcond
        have c1 := Nat.eq_of_beq_eq_true c1
        have c2 := Nat.le_of_ble_eq_true c2
        simp only [VR] at ha
        obtain ⟨b, cc, hm, _, rfl⟩ := ha
        have hHi := sub _ _ hH
        obtain ⟨vs, hb, hvs⟩ := box_cells R hHi hm
        have hus := cells_VRs hx hc
        have hl1 := VRs_length hus
        have hl2 := VRs_length hvs
        simp only [Array.length_toList] at hl1 hl2
        have hst := run_storeCells_at (P := P) b off t' v.cells.toList 0 vs w hb (by simp; omega) (allOne_cells hus c3)
        have E : Ext μ S H μ S (upd H i (some (.box t' (splice cs off c)))) := Ext.box hHi
        have hB := R.ge hm rfl
        refine ⟨.skip, undef, w.setRow b (vs.toList.take off ++ v.cells.toList ++ vs.toList.drop (off + v.cells.toList.length)).toArray, μ, ?_, .inr ⟨rfl, rfl⟩, ?_, E, by simp only [Out.res, VR]⟩
        · simp only [Nat.add_zero] at hst
          have hsz : ¬ (v.cells.size ≠ inf.size) := by omega
          simp only [Instr.storeAt, Instr.sureAddr, storeVar, Sem.run_bind, Sem.run_pure, Result.andThen_ok, rSize hinf, Sem.run_ite, if_neg hsz, hst]
        · refine R.wr hm rfl _ (below_setRow (Below.refl _ _) (Nat.le_refl _) _) (size_setRow _ _ _) (fun k hk => setRow_other _ _ _ _ hk) E ?_
          refine ⟨b, _, rfl, hB.1, hB.2, setRow_heap _ _ _ _ _ _ hb, ?_⟩
          rw [List.toList_toArray]
          exact VRs_mono E _ _ (splice_VRs hvs hus off)
      · simp at h
    · simp at h
  · rename_i i g k off
    split at h
    · rename_i te e g' xs hH
      split at h
      · rename_i c inf hc hinf
        split at h
        · rename_i y hy
          obtain ⟨hcond, rfl⟩ := cond_some h
          simp only [Bool.and_eq_true] at hcond
          obtain ⟨⟨⟨c0, c1⟩, c2⟩, c3⟩ := hcond
          have c0 := Nat.eq_of_beq_eq_true c0
          have c1 := Nat.eq_of_beq_eq_true c1
          have c2 := Nat.le_of_ble_eq_true c2
          have hlt : k < xs.length := by simpa [Out.ok] using hk
          have hHi := sub _ _ hH
          simp only [VR] at ha
          obtain ⟨_, l, hm, h2⟩ := ha
          obtain ⟨b, hb, rfl⟩ := (h2 _ _ _ _ hHi).2 c0
          have hB := R.ge hm hb
          obtain ⟨l', h1, hO⟩ := R.obj i _ hHi
          have hll : l' = l := Option.some.inj (h1.symm.trans hm)
          subst hll
          rcases hO.2 with h3 | ⟨b', cs, e1, q1, q2, h4, h5, h6⟩
          · rw [h3.1] at hb; simp at hb
          have hbb : b' = b := Option.some.inj (e1.symm.trans hb)
          subst hbb
          have hus := cells_VRs hx hc
          have hl1 := VRs_length hus
          simp only [Array.length_toList] at hl1
          have hk1 : (k + 1) * e.size ≤ l'.cap * e.size := Nat.mul_le_mul_right _ (by have := hO.1.1; omega)
          rw [Nat.add_mul, Nat.one_mul] at hk1
          have hst := run_storeCells_at (P := P) b' (k * e.size + off) te v.cells.toList 0 cs w h4 (by simp; omega) (allOne_cells hus c3)
          have E : Ext μ S H μ S (upd H i (some (.row te e g' (xs.set k y)))) := Ext.row_same hHi (by simp)
          obtain ⟨p0, k1, k2⟩ := h6 k (rd e xs k) (by unfold rd; rw [List.getD_eq_getElem?_getD, List.getElem?_eq_getElem hlt]; rfl)
          have hp0 := Rd_length _ _ _ k1
          have hRy : Rd S e y (p0.take off ++ v.cells.toList ++ p0.drop (off + v.cells.toList.length)) := decAll_Rd (splice_VRs (enc_VRs (μ := μ) (H := H) e _ p0 k1) hus off) hy
          have hvl : v.cells.toList.length = c.length := by simp; omega
          refine ⟨.skip, undef, w.setRow b' (cs.toList.take (k * e.size + off) ++ v.cells.toList ++ cs.toList.drop (k * e.size + off + v.cells.toList.length)).toArray, μ, ?_, .inr ⟨rfl, rfl⟩, ?_, E, by simp only [Out.res, VR]⟩
          · simp only [Nat.add_zero] at hst
            have hsz : ¬ (v.cells.size ≠ inf.size) := by omega
            simp only [Instr.storeAt, Instr.sureAddr, storeVar, Sem.run_bind, Sem.run_pure, Result.andThen_ok, rSize hinf, Sem.run_ite, if_neg hsz, hst]
          · have hcl : cs.toList.length = cs.size := Array.length_toList
            have hfits : k * e.size + off + v.cells.toList.length ≤ cs.toList.length := by omega
            refine R.wr hm e1 _ (below_setRow (Below.refl _ _) (Nat.le_refl _) _) (size_setRow _ _ _) (fun k hk => setRow_other _ _ _ _ hk) E ?_
            refine ⟨⟨by rw [List.length_set]; exact hO.1.1, hO.1.2⟩, .inr ⟨b', _, e1, q1, q2, setRow_heap _ _ _ _ _ _ h4, ?_, fun j x' hj => ?_⟩⟩
            · simp only [List.size_toArray, List.length_append, List.length_take, List.length_drop]
              omega
            · simp only [List.getElem?_toArray]
              by_cases ej : j = k
              · subst ej
                rw [List.getElem?_set_self hlt] at hj
                cases hj
                refine ⟨_, hRy, fun m u hm' => ?_⟩
                rw [splice_get _ _ _ _ (by omega)] at hm'
                rw [splice_get _ _ _ _ hfits]
                by_cases m1 : m < off
                · rw [if_pos m1] at hm'
                  rw [if_pos (by omega), Array.getElem?_toList]
                  exact k2 m u hm'
                · rw [if_neg m1] at hm'
                  rw [if_neg (by omega)]
                  by_cases m2 : m < off + v.cells.toList.length
                  · rw [if_pos m2] at hm'
                    rw [if_pos (by omega), ← hm']; congr 1; omega
                  · rw [if_neg m2] at hm'
                    rw [if_neg (by omega), Array.getElem?_toList]
                    exact k2 m u hm'
              · rw [List.getElem?_set_ne (Ne.symm ej)] at hj
                obtain ⟨q, r1, r2⟩ := h6 j x' hj
                refine ⟨q, r1, fun m u hm' => ?_⟩
                have hql := Rd_length _ _ _ r1
                have hmq : m < e.size := by
                  rw [← hql]
                  exact (List.getElem?_eq_some_iff.1 hm').1
                have := r2 m u hm'
                rw [splice_get _ _ _ _ hfits, Array.getElem?_toList]
                by_cases hjk : j < k
                · have : (j + 1) * e.size ≤ k * e.size := Nat.mul_le_mul_right _ hjk
                  rw [Nat.add_mul, Nat.one_mul] at this
                  rw [if_pos (by omega)]; assumption
                · have : (k + 1) * e.size ≤ j * e.size := Nat.mul_le_mul_right _ (by omega)
                  rw [Nat.add_mul, Nat.one_mul] at this
                  rw [if_neg (by omega), if_neg (by omega)]; assumption
        · simp at h
      · simp at h
    · simp at h
  · simp at h

omit [Glob] in
theorem field_run {s : TypeId} {fields : Array Field} {f : Nat} {fl : Field} {ti : TypeInfo} (hs : P.underlying s = some (.struct fields)) (hf : fields[f]? = some fl) (hi : P.info? fl.type = some ti) (h0 : Nat.beq ti.size 0 = false) (ad : Addr) :
    (Instr.fieldAt s (.pointer (some ad)) f).run P w = .ok (.pointer (some (ad.add fl.offset))) w := by
  have hz : ¬ ti.size = 0 := fun e => by rw [e] at h0; simp at h0
  simp only [Instr.fieldAt, Sem.run_bind, rUnder hs, Result.andThen_ok, hf, Instr.sureAddr, Sem.run_pure, fieldPlace, rSize hi, Sem.run_ite, if_neg hz]

theorem oField_ok (sub : ∀ i o, Hh i = some o → H i = some o) (R : Rel μ S H B w0 w) {s : TypeId} {x : AV} {f : Nat} {v : Value} {out : Out} (hx : VR μ S H x v) (h : oField P Hh s x f = some out) :
    Done P w w0 μ S H B (do pure (.value (← Instr.fieldAt s v f))) out := by
  unfold oField at h
  split at h
  · rename_i fields hs
    split at h
    · rename_i fl hf
      split at h
      · rename_i ti hi
        cases h0 : Nat.beq ti.size 0 with
        | true => rw [h0] at h; simp at h
        | false =>
          rw [h0] at h
          simp only [cond_false] at h
          split at h
          · rename_i i off
            cases h
            simp only [VR] at hx
            obtain ⟨b, c, hm, hr, rfl⟩ := hx
            refine doneVal R (field_run hs hf hi h0 _) ?_
            rw [plain_add]; simp only [VR]; exact ⟨b, c, hm, hr, rfl⟩
          · rename_i e y off
            cases h
            simp only [VR] at hx
            obtain ⟨ad, c, h1, h2, rfl⟩ := hx
            refine doneVal R (field_run hs hf hi h0 _) ?_
            rw [add_add]; simp only [VR]; exact ⟨ad, c, h1, h2, rfl⟩
          · rename_i i g k off
            split at h
            · rename_i t e g' xs hH
              obtain ⟨hg, rfl⟩ := cond_some h
              have hgg := Nat.eq_of_beq_eq_true hg
              have hx0 := hx
              simp only [VR] at hx
              obtain ⟨_, l, hm, h2⟩ := hx
              obtain ⟨b, hb, rfl⟩ := (h2 _ _ _ _ (sub _ _ hH)).2 hgg
              refine doneVal R (field_run hs hf hi h0 _) ?_
              rw [plain_add]
              simp only [VR]
              refine ⟨⟨_, rfl⟩, l, hm, fun t1 e1 g1 xs1 hH1 => ?_⟩
              have e0 : H i = some (.row t e g' xs) := sub _ _ hH
              rw [e0] at hH1
              injection hH1 with hH1
              injection hH1 with k1 k2 k3 k4
              subst k2 k3
              exact ⟨by omega, fun _ => ⟨b, hb, by rw [Nat.add_assoc]⟩⟩
            · simp at h
          · simp at h
      · simp at h
    · simp at h
  · simp at h

theorem oPart_ok (R : Rel μ S H B w0 w) {s : TypeId} {x : AV} {f : Nat} {v : Value} {out : Out} (hx : VR μ S H x v) (h : oPart P s x f = some out) :
    Done P w w0 μ S H B (do pure (.value (← Instr.field s v f))) out := by
  unfold oPart at h
  split at h
  · rename_i fields hs
    split at h
    · rename_i fl hf
      split at h
      · rename_i cs
        split at h
        · rename_i r hr
          cases h
          simp only [VR] at hx
          obtain ⟨vs, rfl, hvs⟩ := hx
          obtain ⟨u, hu, hv⟩ := cut_part (P := P) (w := w) hvs hr
          exact doneVal R (by simp only [Instr.field, Sem.run_bind, rUnder hs, Result.andThen_ok, hf, asAgg, Sem.run_pure, hu]) hv
        · simp at h
      · simp at h
    · simp at h
  · simp at h

theorem oNil_ok (sub : ∀ i o, Hh i = some o → H i = some o) (R : Rel μ S H B w0 w) {ρ : Operand → Value} {X : Operand} {x : AV} {out : Out} {dst : Option Tmp} {ty : TypeId} {pos : String} {af : Array Edge} {gd : Option (Nat × Bool)} (hx : VR μ S H x (ρ X)) (h : oNil Hh x = some out) :
    Done P w w0 μ S H B (execOp ρ ⟨dst, .nilCheck X, ty, pos, af, gd⟩) out := by
  have key : ∀ {c : Bool} {v : AV}, (execOp ρ ⟨dst, .nilCheck X, ty, pos, af, gd⟩) = pure (.value (ρ X)) → VR μ S H v (ρ X) → Done P w w0 μ S H B (execOp ρ ⟨dst, .nilCheck X, ty, pos, af, gd⟩) (.val c v) := by
    intro c v he hv
    exact ⟨_, _, w, μ, by rw [he]; rfl, .inl rfl, R, Ext.refl, hv⟩
  unfold oNil at h
  split at h
  · cases h
    have hx0 := hx
    simp only [VR] at hx
    obtain ⟨b, c, _, _, e⟩ := hx
    exact key (by simp only [execOp, e]) hx0
  · cases h
    have hx0 := hx
    simp only [VR] at hx
    obtain ⟨_, _, _, _, e⟩ := hx
    exact key (by simp only [execOp, e]) hx0
  · rename_i i g k off
    split at h
    · rename_i t e g' xs hH
      obtain ⟨hg, rfl⟩ := cond_some h
      have hgg := Nat.eq_of_beq_eq_true hg
      have hx0 := hx
      simp only [VR] at hx
      obtain ⟨_, l, hm, h2⟩ := hx
      obtain ⟨b, hb, e⟩ := (h2 _ _ _ _ (sub _ _ hH)).2 hgg
      exact key (by simp only [execOp, e]) hx0
    · simp at h
  · cases h
    have hx0 := hx
    simp only [VR] at hx
    obtain ⟨a, b, e, _⟩ := hx
    exact key (by simp only [execOp, e]) hx0
  · cases h
    have hx0 := hx
    simp only [VR] at hx
    exact key (by simp only [execOp, hx]) hx0
  · simp at h

omit [Glob] in
theorem eqF_ok {g : TypeId → AV → AV → Option Bool} {d : Nat} (hg : ∀ t x y r a b, g t x y = some r → VR μ S H x a → VR μ S H y b → (Op.equalIn d t a b).run P w = .ok r w)
    {xs ys : List AV} {us vs : Array Value} (hx : VRs μ S H xs us.toList) (hy : VRs μ S H ys vs.toList) : ∀ {fs : List Field} {r : Bool}, eqF P g xs ys fs = some r → (Op.eqFields d us vs fs).run P w = .ok r w
  | [], r, h => by
    simp only [eqF, Option.some.injEq] at h
    subst h; simp [Op.eqFields]
  | f :: fs, r, h => by
    simp only [eqF] at h
    split at h
    · rename_i hn
      have hn' : ¬ (f.name ≠ "_") := by simpa using hn
      rw [Op.eqFields, if_neg hn']
      exact eqF_ok hg hx hy h
    · rename_i hn
      have hn' : f.name ≠ "_" := by simpa using hn
      split at h
      case h_2 => simp at h
      rename_i a b ha hb
      split at h
      case h_2 => simp at h
      rename_i r1 s1 h1 h2
      cases h
      obtain ⟨u, ku, ru⟩ := cut_part (P := P) (w := w) hx ha
      obtain ⟨v, kv, rv⟩ := cut_part (P := P) (w := w) hy hb
      have he := hg _ _ _ _ _ _ h1 ru rv
      have hr := eqF_ok hg hx hy h2
      rw [Op.eqFields]
      simp only [if_pos hn', Sem.run_bind, ku, kv, he, Result.andThen_ok]
      cases r1
      · simp
      · simpa using hr

omit [Glob] in
theorem eqA_ok : ∀ (n d : Nat) (t : TypeId) (x y : AV) (r : Bool) (a b : Value), n ≤ d → eqA P n t x y = some r → VR μ S H x a → VR μ S H y b → (Op.equalIn d t a b).run P w = .ok r w
  | 0, d, t, x, y, r, a, b, hd, h, hx, hy => by simp [eqA] at h
  | n + 1, d, t, x, y, r, a, b, hd, h, hx, hy => by
    obtain ⟨d, rfl⟩ : ∃ e, d = e + 1 := ⟨d - 1, by omega⟩
    simp only [eqA] at h
    unfold eqV at h
    split at h
    · simp only [VR] at hx hy; subst hx hy
      split at h
      case h_2 => simp at h
      rename_i ht
      cases h
      exact run_equalIn_bool' w d t _ _ ht
    · simp only [VR] at hx hy; subst hx hy
      split at h
      case h_2 => simp at h
      rename_i ht
      obtain ⟨hk, rfl⟩ := cond_some h
      simp only [decide_eq_true_eq] at hk
      subst hk
      rw [run_equalIn_int w d t _ _ _ _ ht]
      rfl
    · simp only [VR] at hx hy; subst hx hy
      split at h
      case h_2 => simp at h
      rename_i ht
      cases h
      exact run_equalIn_string w d t _ _ ht
    · split at h
      case h_2 => simp at h
      rename_i fs ht
      obtain ⟨hp, h⟩ := cond_no h
      simp only [VR] at hx hy
      obtain ⟨us, rfl, hu⟩ := hx
      obtain ⟨vs, rfl, hv⟩ := hy
      have hf : P.fieldsOf t = fs := by simp [Program.fieldsOf, ht]
      rw [run_equalIn_struct (P := P) w d t us vs (by rw [hf]; exact ht) hp, hf]
      exact eqF_ok (fun t x y r a b h1 h2 h3 => eqA_ok n d t x y r a b (by omega) h1 h2 h3) hu hv h
    · simp at h

theorem oBin_ok (R : Rel μ S H B w0 w) {op : BinOp} {t : TypeId} {X Y : Operand} {x y : AV} {a b : Value} {out : Out} (hx : VR μ S H x a) (hy : VR μ S H y b) (h : oBin P op t x y = some out) (hk : out.ok = true) :
    Done P w w0 μ S H B (do pure (.value (← (do eqGuard op t X Y a b; binOp op t a b)))) out := by
  unfold oBin at h
  split at h
  · rename_i a' b'
    split at h
    · rename_i c v hb
      cases h
      simp only [VR] at hx hy
      subst hx hy
      have hc : c = true := hk
      subst hc
      exact doneVal R (binop_run hb) (by simp only [VR])
    · simp at h
  · rename_i xs ys
    obtain ⟨hgd, h⟩ := cond_no h
    split at h
    case h_2 => simp at h
    rename_i r hr
    have he := eqA_ok (P := P) (w := w) 9 Op.maxDepth t _ _ r a b (by decide) hr hx hy
    have hx0 := hx
    have hy0 := hy
    simp only [VR] at hx0 hy0
    obtain ⟨us, rfl, _⟩ := hx0
    obtain ⟨vs, rfl, _⟩ := hy0
    have he' : (Op.equalIn 10000 t (.agg us) (.agg vs)).run P w = .ok r w := he
    split at h
    · cases h
      refine doneVal R (u := .bool r) ?_ (by simp only [Out.res, VR])
      simp only [Sem.run_bind, run_eqGuard_agg w .eql t X Y us vs hgd, Result.andThen_ok, run_eql_struct, he']
    · cases h
      refine doneVal R (u := .bool (!r)) ?_ (by simp only [Out.res, VR])
      simp only [Sem.run_bind, run_eqGuard_agg w .neq t X Y us vs hgd, Result.andThen_ok, run_neq_struct, he']
    · simp at h
  · simp at h

theorem oUn_ok (R : Rel μ S H B w0 w) {op : UnOp} {x : AV} {a : Value} {out : Out} (hx : VR μ S H x a) (h : oUn op x = some out) :
    Done P w w0 μ S H B (do pure (.value (← Op.unary op a))) out := by
  unfold oUn at h
  split at h
  · simp only [VR] at hx; subst hx
    split at h
    · cases h; exact doneVal R rfl (by simp only [Out.res, VR])
    · simp at h
  · simp only [VR] at hx; subst hx
    split at h
    · cases h; exact doneVal R rfl (by simp only [Out.res, VR])
    · cases h; exact doneVal R rfl (by simp only [Out.res, VR, bitop])
    · simp at h
  · simp at h

theorem oConv_ok (R : Rel μ S H B w0 w) {s d : TypeId} {x : AV} {a : Value} {out : Out} (hx : VR μ S H x a) (h : oConv P s d x = some out) :
    Done P w w0 μ S H B (do pure (.value (← convert s d a))) out := by
  unfold oConv at h
  split at h
  · rename_i k0 n
    simp only [VR] at hx; subst hx
    split at h
    · rename_i _ _ ds k h1 h2
      cases h
      refine doneVal R (u := .int k (k.wrap n)) ?_ (by simp only [Out.res, VR])
      simp only [convert, Sem.run_bind, rUnder h1, rUnder h2, Result.andThen_ok]
      cases ds <;> rfl
    · simp at h
  · rename_i n
    simp only [VR] at hx; subst hx
    split at h
    · rename_i _ _ ds h1 h2
      cases h
      refine doneVal R (u := .string n) ?_ (by simp only [Out.res, VR])
      simp only [convert, Sem.run_bind, rUnder h1, rUnder h2, Result.andThen_ok]
      cases ds <;> rfl
    · simp at h
  · simp at h

theorem oExt_ok (R : Rel μ S H B w0 w) {i : Nat} {x : AV} {a : Value} {out : Out} (hx : VR μ S H x a) (h : oExt x i = some out) :
    Done P w w0 μ S H B (do pure (.value (← Instr.extract a i))) out := by
  unfold oExt at h
  split at h
  · rename_i vs
    split at h
    · rename_i v hv
      cases h
      simp only [VR] at hx
      obtain ⟨us, rfl, hus⟩ := hx
      obtain ⟨u, hu, hr⟩ := VRs_get hus i v hv
      have hu' : us[i]? = some u := by simpa using hu
      exact doneVal R (by simp only [Instr.extract, hu', Sem.run_pure]) hr
    · simp at h
  · simp at h

omit [Glob] in
theorem bt_at (s : ByteArray) {i : Int} (h0 : 0 ≤ i) (h1 : i < (s.size : Int)) : ∃ b : UInt8, s[i.toNat]? = some b ∧ (b.toNat : Int) = bt s i := by
  have h2 : i.toNat < s.size := by omega
  refine ⟨s[i.toNat], by simp [h2], ?_⟩
  simp [bt, h2]

theorem oIndex_ok (R : Rel μ S H B w0 w) {t : TypeId} {x y : AV} {a b : Value} {out : Out} (hx : VR μ S H x a) (hy : VR μ S H y b) (h : oIndex P t x y = some out) (hk : out.ok = true) :
    Done P w w0 μ S H B (do pure (.value (← Instr.index t a b))) out := by
  unfold oIndex at h
  split at h
  · rename_i s k i
    split at h
    · rename_i ht
      cases h
      simp only [VR] at hx hy; subst hx hy
      simp only [Out.ok, Bool.and_eq_true, decide_eq_true_eq] at hk
      obtain ⟨c, hc, hb⟩ := bt_at s hk.1 hk.2
      refine doneVal R (u := .int .u8 (bt s i)) ?_ (by simp only [VR])
      simp only [Instr.index, Sem.run_bind, asIntOf, Sem.run_pure, Result.andThen_ok, rUnder ht, if_pos hk.1, hc, hb]
    · simp at h
  · rename_i cs k i
    simp only [VR] at hx hy
    subst hy
    obtain ⟨vs, rfl, hvs⟩ := hx
    split at h
    · rename_i n el ht
      split at h
      · rename_i inf hinf
        split at h
        · rename_i v hcut
          cases h
          simp only [Out.ok, Bool.and_eq_true, decide_eq_true_eq] at hk
          obtain ⟨u, hu, hv⟩ := cut_part (P := P) (w := w) hvs hcut
          refine doneVal R (u := u) ?_ hv
          simp only [Instr.index, Sem.run_bind, asIntOf, Sem.run_pure, Result.andThen_ok, rUnder ht, if_pos hk, Sem.run_ite, rSize hinf, hu]
        · simp at h
      · simp at h
    · simp at h
  · simp at h

theorem oAt_ok (sub : ∀ i o, Hh i = some o → H i = some o) (R : Rel μ S H B w0 w) {t : TypeId} {x y : AV} {a b : Value} {out : Out} (hx : VR μ S H x a) (hy : VR μ S H y b) (h : oAt P Hh t x y = some out) (hk : out.ok = true) :
    Done P w w0 μ S H B (do pure (.value (← Instr.indexAt t a b))) out := by
  unfold oAt at h
  split at h
  · rename_i k i
    simp only [VR] at hy; subst hy
    split at h
    · rename_i el ht
      split at h
      · rename_i inf hinf
        split at h
        · rename_i e xs
          obtain ⟨hsz, rfl⟩ := cond_some h
          have hsz := Nat.eq_of_beq_eq_true hsz
          simp only [Out.ok, Bool.and_eq_true, decide_eq_true_eq] at hk
          simp only [VR, Rd] at hx
          obtain ⟨ao, cap, e1, h2, h3⟩ := hx
          cases e1
          have hlt : i.toNat < xs.length := by omega
          obtain ⟨ad, c, rfl, k1, k2⟩ := h3 i.toNat (rd e xs i.toNat) (by unfold rd; rw [List.getD_eq_getElem?_getD, List.getElem?_eq_getElem hlt]; rfl)
          refine doneVal R (u := .pointer (some (ad.add (i.toNat * inf.size)))) ?_ ?_
          · simp only [Instr.indexAt, Sem.run_bind, asIntOf, Sem.run_pure, Result.andThen_ok, rUnder ht, if_pos hk, Sem.run_ite, rSize hinf]
          · simp only [VR]
            exact ⟨ad.add (i.toNat * inf.size), c, k1, fun m u hm => by rw [add_add, hsz]; exact k2 m u hm, by rw [add_zero]⟩
        · rename_i j g
          split at h
          · rename_i t' e g' xs hH
            obtain ⟨hc, rfl⟩ := cond_some h
            simp only [Bool.and_eq_true] at hc
            have hgg := Nat.eq_of_beq_eq_true hc.1
            have hsz := Nat.eq_of_beq_eq_true hc.2
            simp only [Out.ok, Bool.and_eq_true, decide_eq_true_eq] at hk
            have hlt : i.toNat < xs.length := by omega
            simp only [VR] at hx
            obtain ⟨_, l, hm, h2⟩ := hx
            have hHj := sub _ _ hH
            have hv := (h2 _ _ _ _ hHj).2 hgg
            subst hv
            obtain ⟨b, hb⟩ := row_blk R hHj hm hlt
            have hl : l.addr = some ⟨b, 0, none⟩ := by simp [Lc.addr, hb]
            refine doneVal R (u := .pointer (some ⟨b, i.toNat * e.size, none⟩)) ?_ ?_
            · simp only [Instr.indexAt, Sem.run_bind, asIntOf, Sem.run_pure, Result.andThen_ok, rUnder ht, if_pos hk, Sem.run_ite, rSize hinf, hl, plain_add, Nat.zero_add, hsz]
            · simp only [VR]
              refine ⟨⟨_, rfl⟩, l, hm, fun t1 e1 g1 xs1 hH1 => ?_⟩
              rw [hHj] at hH1
              injection hH1 with hH1
              injection hH1 with k1 k2 k3 k4
              subst k2 k3
              exact ⟨by omega, fun _ => ⟨b, hb, rfl⟩⟩
          · simp at h
        · simp at h
      · simp at h
    · simp at h
  · simp at h
end
end Go.Sy
