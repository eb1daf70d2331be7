/- Maps of integers: laid, read and written. -/
import Derived.Test.YtipajaocggpahaaGreatSym5c
import Derived.MapKept
import Derived.RangeFuncRecord
namespace Go.Sy
open Go Go.RowKit Go.MapKept
set_option linter.unusedSimpArgs false
set_option linter.unusedVariables false

theorem mapEs_length : ∀ (n : Nat) (l : List (Int × Int)), (mapEs n l).length = l.length
  | _, [] => rfl
  | n, _ :: l => by simp only [mapEs, List.length_cons, mapEs_length (n + 1) l]

theorem mapEs_get : ∀ (n : Nat) (l : List (Int × Int)) (j : Nat), (mapEs n l)[j]? = (l[j]?).map fun p => ⟨.int .i64 p.1, .int .i64 p.2, n + j⟩
  | _, [], j => by simp [mapEs]
  | n, p :: l, 0 => by simp [mapEs]
  | n, p :: l, j + 1 => by
    simp only [mapEs, List.getElem?_cons_succ]
    rw [mapEs_get (n + 1) l j, show n + 1 + j = n + (j + 1) by omega]

theorem mapEs_append : ∀ (n : Nat) (l : List (Int × Int)) (p : Int × Int), mapEs n (l ++ [p]) = mapEs n l ++ [⟨.int .i64 p.1, .int .i64 p.2, n + l.length⟩]
  | n, [], p => by simp [mapEs]
  | n, q :: l, p => by
    simp only [List.cons_append, mapEs, mapEs_append (n + 1) l p, List.length_cons]
    rw [show n + 1 + l.length = n + (l.length + 1) by omega]

theorem mHas_idx : ∀ {l : List (Int × Int)} {x : Int}, mHas l x = true → l[mIdx l x]? = some (x, mVal l x)
  | [], x, h => by simp [mHas] at h
  | p :: l, x, h => by
    simp only [mHas, mIdx, mVal] at h ⊢
    by_cases e : x = p.1
    · subst e; simp
    · rw [decide_eq_false e] at h ⊢
      simp only [cond_false, List.getElem?_cons_succ] at h ⊢
      exact mHas_idx h

theorem mHas_no : ∀ {l : List (Int × Int)} {x : Int}, mHas l x = false → mIdx l x = l.length ∧ mVal l x = 0
  | [], x, _ => ⟨rfl, rfl⟩
  | p :: l, x, h => by
    simp only [mHas, mIdx, mVal] at h ⊢
    by_cases e : x = p.1
    · rw [decide_eq_true e] at h; simp at h
    · rw [decide_eq_false e] at h ⊢
      simp only [cond_false] at h ⊢
      obtain ⟨h1, h2⟩ := mHas_no h
      exact ⟨by rw [h1]; rfl, h2⟩

theorem find_es (x : Int) : ∀ (l : List (Int × Int)) (n i : Nat), Instr.findNow (.int .i64) (.int .i64 x) (mapEs n l) i = some (cond (mHas l x) (some (i + mIdx l x, .int .i64 (mVal l x))) none)
  | [], n, i => rfl
  | p :: l, n, i => by
    simp only [mapEs, Instr.findNow, Instr.sameNow, if_true, mHas, mIdx, mVal]
    by_cases e : x = p.1
    · subst e; simp
    · have : (x == p.1) = false := by simpa using e
      rw [this, decide_eq_false e]
      simp only [cond_false]
      rw [find_es x l (n + 1) (i + 1), show i + 1 + mIdx l x = i + (mIdx l x + 1) by omega]

theorem mSet_es : ∀ (l : List (Int × Int)) (n j : Nat) (v : Int), (mapEs n l).modify j (fun e => { e with val := .int .i64 v }) = mapEs n (mSet l j v)
  | [], n, j, v => by cases j <;> rfl
  | p :: l, n, 0, v => rfl
  | p :: l, n, j + 1, v => by
    simp only [mapEs, mSet]
    rw [List.modify_succ_cons, mSet_es l (n + 1) j v]

theorem mSet_length : ∀ (l : List (Int × Int)) (j : Nat) (v : Int), (mSet l j v).length = l.length
  | [], _, _ => rfl
  | _ :: _, 0, _ => rfl
  | _ :: l, j + 1, v => by simp only [mSet, List.length_cons, mSet_length l j v]

theorem born_es : ∀ (l : List (Int × Int)) (n j : Nat), j < l.length → (mapEs n l).findIdx? (fun e => (e.born : Int) == ((n + j : Nat) : Int)) = some j
  | [], n, j, h => by simp at h
  | p :: l, n, 0, h => by
    simp only [mapEs, List.findIdx?_cons]
    simp
  | p :: l, n, j + 1, h => by
    simp only [mapEs, List.findIdx?_cons]
    have : ((n : Int) == ((n + (j + 1) : Nat) : Int)) = false := by
      rw [beq_eq_false_iff_ne]; omega
    rw [this]
    have ih := born_es l (n + 1) j (by simpa using h)
    rw [show n + 1 + j = n + (j + 1) by omega] at ih
    rw [ih]; rfl

structure MapII (P : Program) (t k e : TypeId) (i : TypeInfo) : Prop where
  map : P.underlying t = some (.map k e)
  key : P.underlying k = some (.int .i64)
  info : P.info? e = some i
  zero : i.zero = some (.int .i64 0)

theorem isMapII_spec {P : Program} {t : TypeId} (h : isMapII P t = true) : ∃ k e i, MapII P t k e i := by
  unfold isMapII at h
  split at h
  · rename_i k e ht
    simp only [Bool.and_eq_true] at h
    obtain ⟨⟨h1, h2⟩, h3⟩ := h
    split at h3
    · rename_i i hi
      split at h3
      · rename_i hz
        refine ⟨k, e, i, ht, ?_, hi, hz⟩
        unfold isInt64 at h1
        split at h1
        · assumption
        · simp at h1
      · simp at h3
    · simp at h3
  · simp at h

section
variable [Glob] {P : Program} {w w' w0 : World} {μ : Mu} {S : Stable} {H Hh : Heap} {B : Nat}

omit [Glob] in
theorem below_put {b : Nat} (hb : B ≤ b) (o : Obj) : Below B w (w.putObj b o) :=
  ⟨rfl, rfl, rfl, by simp, fun k hk => World.putObj_heap_other (by omega)⟩

omit [Glob] in
theorem Ext.map {i : Nat} {es : List (Int × Int)} : Ext μ S H μ S (upd H i (some (.map es))) := by
  refine ⟨fun _ _ h => .inl h, fun _ _ h => h, fun j t0 e g xs _ hH => ?_⟩
  by_cases ej : j = i
  · subst ej; rw [upd_same] at hH; simp at hH
  · rw [upd_ne _ _ ej] at hH; exact ⟨t0, g, xs, hH, Nat.le_refl _, fun _ => rfl⟩

theorem Rel.map (R : Rel μ S H B w0 w) {i b cp : Nat} {es : List (Int × Int)} (h : H i = some (.map es)) (hm : μ i = some ⟨some b, cp⟩) : w.heap[b]? = some (.map (mapEs 0 es).toArray es.length) := by
  obtain ⟨l, h1, h2⟩ := R.obj i _ h
  rw [hm] at h1; cases h1
  obtain ⟨b', q1, q2, q3, q4⟩ := h2
  cases q1
  exact q4

theorem Rel.setMap (R : Rel μ S H B w0 w) {i b cp : Nat} {es fs : List (Int × Int)} (h : H i = some (.map es)) (hm : μ i = some ⟨some b, cp⟩) :
    Rel μ S (upd H i (some (.map fs))) B w0 (w.putObj b (.map (mapEs 0 fs).toArray fs.length)) := by
  obtain ⟨l, h1, h2⟩ := R.obj i _ h
  rw [hm] at h1; cases h1
  obtain ⟨b', q1, q2, q3, q4⟩ := h2
  cases q1
  exact R.wr hm rfl _ (below_put (Nat.le_refl _) _) (by simp) (fun k hk => World.putObj_heap_other hk) Ext.map ⟨b, rfl, q2, q3, World.putObj_heap_same (R.lt hm rfl)⟩

omit [Glob] in
theorem run_setObj_put {b : Nat} {es : Array MapEntry} {clock : Nat} (o : Obj) (hb : w.heap[b]? = some (.map es clock)) : (setObj b o).run P w = .ok () (w.putObj b o) := run_setObj_map o hb

theorem oMakeMap_ok (R : Rel μ S H B w0 w) {id : Nat} {t : TypeId} {out : Out} (h : oMakeMap P id t = some out) (hf : out.fresh H = true) :
    Done P w w0 μ S H B (do pure (.value (← Instr.makeMap t none))) out := by
  obtain ⟨_, rfl⟩ := cond_some h
  have hid : H id = none := by simpa [Out.fresh] using hf
  obtain ⟨h1, h2⟩ := R.new hid (.map #[] 0) (.map []) ⟨some w.heap.size, 0⟩ rfl ⟨w.heap.size, rfl, R.size, st_new R, alloc_heap_new _ _⟩
  refine ⟨.value (.map (some w.heap.size)), _, w.alloc (.map #[] 0), _, ?_, .inl rfl, h1, h2, ?_⟩
  · simp only [Instr.makeMap, Sem.run_bind, Result.andThen_ok, Sem.run_pure, run_newObj]
    rfl
  · simp only [Out.res, VR]
    exact ⟨w.heap.size, 0, upd_same _ _ _, fun t e g xs h => by simp only [Out.heap] at h; rw [upd_same] at h; simp at h, rfl⟩

theorem oMapEntry_ok (sub : ∀ i o, Hh i = some o → H i = some o) (R : Rel μ S H B w0 w) {t : TypeId} {x y : AV} {vx vy : Value} {out : Out} (hx : VR μ S H x vx) (hy : VR μ S H y vy) (h : oMapEntry P Hh t x y = some out) :
    Done P w w0 μ S H B (do pure (.value (← Instr.mapEntry t vx vy))) out := by
  unfold oMapEntry at h
  split at h
  case h_2 => simp at h
  rename_i j k
  split at h
  case h_2 => simp at h
  rename_i es hH
  obtain ⟨hii, rfl⟩ := cond_some h
  obtain ⟨kt, et, inf, M⟩ := isMapII_spec hii
  have hHj := sub _ _ hH
  simp only [VR] at hx hy
  obtain ⟨b, cp, hm, _, rfl⟩ := hx
  subst hy
  have hb := R.map hHj hm
  have hg : (getObj b).run P w = .ok (.map (mapEs 0 es).toArray es.length) w := MapKept.run_getObj_map hb
  have hck : (Instr.checkKey false 10000 kt (.int .i64 k)).run P w = .ok () w := run_checkKey (d := .int .i64) M.key (show IsKey (.int .i64) (.int .i64 k) from rfl) false 9999
  have hfk := run_findKey (P := P) (w := w) (k := .int .i64 k) M.key (find_es k es 0 0)
  have hz : (zeroValue et).run P w = .ok (.int .i64 0) w := rZero M.info M.zero
  refine ⟨.value (.tuple #[.int .i64 (mVal es k), .int .i64 ((mIdx es k : Nat) : Int)]), _, w.putObj b (.map (mapEs 0 (mEnt es k)).toArray (mEnt es k).length), μ, ?_, .inl rfl, R.setMap hHj hm, Ext.map, ?_⟩
  · cases hh : mHas es k with
    | true =>
      rw [hh] at hfk
      simp only [cond_true, Nat.zero_add] at hfk
      have hat := mHas_idx hh
      have hget : (mapEs 0 es)[mIdx es k]? = some ⟨.int .i64 k, .int .i64 (mVal es k), mIdx es k⟩ := by rw [mapEs_get, hat]; simp
      have hme : mEnt es k = es := by unfold mEnt; rw [hh]; rfl
      have hks : (Instr.keyThatStays (.int .i64 k) (.int .i64 k)).run P w = .ok (.int .i64 k) w := by simp [Instr.keyThatStays, Instr.sameBits]
      have hmod : (mapEs 0 es).toArray.modify (mIdx es k) (fun e => { e with key := .int .i64 k }) = (mapEs 0 es).toArray := by
        apply Array.ext'
        rw [Array.toList_modify]
        apply List.ext_getElem?
        intro q
        rw [List.getElem?_modify]
        by_cases e : mIdx es k = q
        · subst e; simp [hget]
        · simp [e]
      simp only [Instr.mapEntry, Sem.run_bind, rUnder M.map, Result.andThen_ok, hg, hck, hfk, List.getElem?_toArray, hget, Option.map_some, Option.getD_some, hks, hmod, run_setObj_put _ hb, Sem.run_pure, hme, goInt]
    | false =>
      rw [hh] at hfk
      simp only [cond_false] at hfk
      obtain ⟨e1, e2⟩ := mHas_no hh
      have hme : mEnt es k = es ++ [(k, 0)] := by unfold mEnt; rw [hh]; rfl
      have hpush : (mapEs 0 es).toArray.push ⟨.int .i64 k, .int .i64 0, es.length⟩ = (mapEs 0 (es ++ [(k, 0)])).toArray := by
        apply Array.ext'
        rw [mapEs_append]
        simp
      simp only [Instr.mapEntry, Sem.run_bind, rUnder M.map, Result.andThen_ok, hg, hck, hfk, hz, hpush, run_setObj_put _ hb, Sem.run_pure, hme, goInt, e1, e2, List.length_append, List.length_cons, List.length_nil]
  · simp only [Out.res, VR, VRs]
    exact ⟨_, rfl, _, _, rfl, rfl, _, _, rfl, rfl, rfl⟩

theorem oEntryStore_ok (sub : ∀ i o, Hh i = some o → H i = some o) (R : Rel μ S H B w0 w) {t : TypeId} {x y z : AV} {vx vy vz : Value} {out : Out} (hx : VR μ S H x vx) (hy : VR μ S H y vy) (hz : VR μ S H z vz)
    (h : oEntryStore Hh x y z = some out) (hk : out.ok = true) :
    Done P w w0 μ S H B (do Instr.entryStore t vx vy vz; pure .skip) out := by
  unfold oEntryStore at h
  split at h
  case h_2 => simp at h
  rename_i j s v
  split at h
  case h_2 => simp at h
  rename_i es hH
  cases h
  simp only [Out.ok, Bool.and_eq_true, decide_eq_true_eq] at hk
  have hHj := sub _ _ hH
  simp only [VR] at hx hy hz
  obtain ⟨b, cp, hm, _, rfl⟩ := hx
  subst hy hz
  have hb := R.map hHj hm
  have hg : (getObj b).run P w = .ok (.map (mapEs 0 es).toArray es.length) w := MapKept.run_getObj_map hb
  have hs : s = ((0 + s.toNat : Nat) : Int) := by omega
  have hfi : (mapEs 0 es).toArray.findIdx? (fun e => (e.born : Int) == s) = some s.toNat := by
    have := born_es es 0 s.toNat (by omega)
    rw [← hs] at this
    rw [List.findIdx?_toArray]
    exact this
  have hmod : (mapEs 0 es).toArray.modify s.toNat (fun e => { e with val := .int .i64 v }) = (mapEs 0 (mSet es s.toNat v)).toArray := by
    apply Array.ext'
    rw [Array.toList_modify, mSet_es]
  refine ⟨.skip, undef, w.putObj b (.map (mapEs 0 (mSet es s.toNat v)).toArray (mSet es s.toNat v).length), μ, ?_, .inr ⟨rfl, rfl⟩, R.setMap hHj hm, Ext.map, by simp only [Out.res, VR]⟩
  rw [mSet_length]
  simp only [Instr.entryStore, Sem.run_bind, Result.andThen_ok, hg, asInt, asIntOf, Sem.run_map, Sem.run_pure, hfi, hmod, run_setObj_put _ hb]

theorem oMapUpdate_ok (sub : ∀ i o, Hh i = some o → H i = some o) (R : Rel μ S H B w0 w) {t : TypeId} {x y z : AV} {vx vy vz : Value} {out : Out} (hx : VR μ S H x vx) (hy : VR μ S H y vy) (hz : VR μ S H z vz) (h : oMapUpdate P Hh t x y z = some out) :
    Done P w w0 μ S H B (do Instr.mapUpdate t vx vy vz; pure .skip) out := by
  unfold oMapUpdate at h
  split at h
  case h_2 => simp at h
  rename_i j k v
  split at h
  case h_2 => simp at h
  rename_i es hH
  obtain ⟨hii, rfl⟩ := cond_some h
  obtain ⟨kt, et, inf, M⟩ := isMapII_spec hii
  have hHj := sub _ _ hH
  simp only [VR] at hx hy hz
  obtain ⟨b, cp, hm, _, rfl⟩ := hx
  subst hy hz
  have hb := R.map hHj hm
  have hg : (getObj b).run P w = .ok (.map (mapEs 0 es).toArray es.length) w := MapKept.run_getObj_map hb
  have hck : (Instr.checkKey false 10000 kt (.int .i64 k)).run P w = .ok () w := run_checkKey (d := .int .i64) M.key (show IsKey (.int .i64) (.int .i64 k) from rfl) false 9999
  have hfk := run_findKey (P := P) (w := w) (k := .int .i64 k) M.key (find_es k es 0 0)
  refine ⟨.skip, undef, w.putObj b (.map (mapEs 0 (mPut es k v)).toArray (mPut es k v).length), μ, ?_, .inr ⟨rfl, rfl⟩, R.setMap hHj hm, Ext.map, by simp only [Out.res, VR]⟩
  cases hh : mHas es k with
  | true =>
    rw [hh] at hfk
    simp only [cond_true, Nat.zero_add] at hfk
    have hat := mHas_idx hh
    have hget : (mapEs 0 es)[mIdx es k]? = some ⟨.int .i64 k, .int .i64 (mVal es k), mIdx es k⟩ := by rw [mapEs_get, hat]; simp
    have hme : mPut es k v = mSet es (mIdx es k) v := by unfold mPut; rw [hh]; rfl
    have hks : (Instr.keyThatStays (.int .i64 k) (.int .i64 k)).run P w = .ok (.int .i64 k) w := by simp [Instr.keyThatStays, Instr.sameBits]
    have hmod : (mapEs 0 es).toArray.modify (mIdx es k) (fun e => { e with key := .int .i64 k, val := .int .i64 v }) = (mapEs 0 (mSet es (mIdx es k) v)).toArray := by
      apply Array.ext'
      rw [Array.toList_modify, ← mSet_es]
      apply List.ext_getElem?
      intro q
      rw [List.getElem?_modify, List.getElem?_modify]
      by_cases e : mIdx es k = q
      · subst e; simp [hget]
      · simp [e]
    simp only [Instr.mapUpdate, Sem.run_bind, rUnder M.map, Result.andThen_ok, hg, hck, hfk, List.getElem?_toArray, hget, Option.map_some, Option.getD_some, hks, hmod, run_setObj_put _ hb, Sem.run_pure, hme, mSet_length]
  | false =>
    rw [hh] at hfk
    simp only [cond_false] at hfk
    have hme : mPut es k v = es ++ [(k, v)] := by unfold mPut; rw [hh]; rfl
    have hpush : (mapEs 0 es).toArray.push ⟨.int .i64 k, .int .i64 v, es.length⟩ = (mapEs 0 (es ++ [(k, v)])).toArray := by
      apply Array.ext'
      rw [mapEs_append]
      simp
    simp only [Instr.mapUpdate, Sem.run_bind, rUnder M.map, Result.andThen_ok, hg, hck, hfk, hpush, run_setObj_put _ hb, Sem.run_pure, hme, List.length_append, List.length_cons, List.length_nil]

theorem oLookup_ok (sub : ∀ i o, Hh i = some o → H i = some o) (R : Rel μ S H B w0 w) {t : TypeId} {ok : Bool} {x y : AV} {vx vy : Value} {out : Out} (hx : VR μ S H x vx) (hy : VR μ S H y vy) (h : oLookup P Hh t ok x y = some out) :
    Done P w w0 μ S H B (do pure (.value (← Instr.lookup t vx vy ok))) out := by
  unfold oLookup at h
  split at h
  case h_2 => simp at h
  rename_i j k
  split at h
  case h_2 => simp at h
  rename_i es hH
  obtain ⟨hii, rfl⟩ := cond_some h
  obtain ⟨kt, et, inf, M⟩ := isMapII_spec hii
  have hHj := sub _ _ hH
  simp only [VR] at hx hy
  obtain ⟨b, cp, hm, _, rfl⟩ := hx
  subst hy
  have hb := R.map hHj hm
  have hg : (getObj b).run P w = .ok (.map (mapEs 0 es).toArray es.length) w := MapKept.run_getObj_map hb
  have hck : ∀ e, (Instr.checkKey e 10000 kt (.int .i64 k)).run P w = .ok () w := fun e => run_checkKey (d := .int .i64) M.key (show IsKey (.int .i64) (.int .i64 k) from rfl) e 9999
  have hfk := run_findKey (P := P) (w := w) (k := .int .i64 k) M.key (find_es k es 0 0)
  have hz : (zeroValue et).run P w = .ok (.int .i64 0) w := rZero M.info M.zero
  refine doneVal R (u := if ok then .tuple #[.int .i64 (mVal es k), .bool (mHas es k)] else .int .i64 (mVal es k)) ?_ ?_
  · cases hh : mHas es k with
    | true =>
      rw [hh] at hfk
      simp only [cond_true] at hfk
      simp only [Instr.lookup, Sem.run_bind, rUnder M.map, Result.andThen_ok, hg, hck, hfk, Sem.run_pure]
    | false =>
      rw [hh] at hfk
      simp only [cond_false] at hfk
      obtain ⟨e1, e2⟩ := mHas_no hh
      simp only [Instr.lookup, Sem.run_bind, rUnder M.map, Result.andThen_ok, hg, hck, hfk, hz, Sem.run_pure, e2]
  · cases ok with
    | true =>
      simp only [cond_true, if_true, VR, VRs]
      exact ⟨_, rfl, _, _, rfl, rfl, _, _, rfl, rfl, rfl⟩
    | false => simp only [cond_false, Bool.false_eq_true, if_false, VR]
end
end Go.Sy
