/- slices.Sort and slices.Compact of integers that are the caller's own: contracts told of data. -/
import Derived.Test.YtipajaocggpahaaGreatClone
import Derived.Shelf.Sort.AssemblyIn
import Derived.Sort.EveryDepth
import Derived.Shelf.Slices.CompactI
import Derived.Sort.OwnSortedInts
namespace Go.Sy
open Go Go.RowKit Go.Shelf Go.Lib Go.Proofs Go.Sort
set_option linter.unusedVariables false
set_option linter.unusedSimpArgs false
variable {P : Program} {ρ : Ren}

theorem RdL_ints {S : Stable} : ∀ {zs : List Int} {cs : List Value}, RdL S (.int .i64) zs cs ↔ cs = zs.map (Value.int .i64)
  | [], cs => Iff.rfl
  | z :: zs, cs => by
    constructor
    · rintro ⟨c, d, rfl, rfl, h⟩
      rw [RdL_ints.1 h]; rfl
    · rintro rfl
      exact ⟨[.int .i64 z], _, rfl, rfl, RdL_ints.2 rfl⟩

def fSort (zs : List Int) : Option (List Int) := cond (ltN zs.length 4611686018427387904) (some (zs.mergeSort fun x y => decide (x ≤ y))) none
def fCompact (zs : List Int) : Option (List Int) := cond (ltN zs.length 4611686018427387904) (some (Lib.compact zs)) none

theorem sort_ok [Glob] (Ly : Lays.n189 P ρ) (hn : ∀ (w : World), Calls P (ρ.f 189) #[.slice none 0 0] w fun e w' => e = .returned (.tuple #[]) ∧ w' = w) (te : TypeId) : (⟨te, .int .i64, [], true, fun zs _ => fSort zs⟩ : UCon).OK P (ρ.f 189) := by
  rintro zs ⟨⟩ ys hy S w B v0 cs0 us hS hG rfl hzs hown hSb hB
  simp only at hzs hown hy
  obtain ⟨hc, rfl⟩ := cond_some (show cond (ltN (List.length zs) 4611686018427387904) (some (List.mergeSort zs fun x y => decide (x ≤ y))) none = some ys from hy)
  have hlt := of_ltN hc
  have hl : (List.mergeSort zs fun x y => decide (x ≤ y)).length = List.length zs := List.length_mergeSort _
  rw [RdL_ints] at hzs
  subst hzs
  rcases hown.2 with ⟨rfl, h0⟩ | ⟨g, cap, cur, rfl, hBg, hg, h1, h2, h3, h4⟩
  · have hz : zs = [] := List.length_eq_zero_iff.1 h0
    subst hz
    refine (hn w).mono ?_
    rintro e w' ⟨rfl, rfl⟩
    have e0 : (([] : List Int).mergeSort fun x y => decide (x ≤ y)) = [] := List.mergeSort_nil
    refine ⟨_, [], rfl, fun _ => ⟨rfl, hl⟩, RdL_ints.2 (by rw [e0]; rfl), ?_, fun b h => .inl h, ⟨rfl, rfl, rfl, Nat.le_refl _, fun _ _ _ => rfl⟩⟩
    rw [hl]
    exact World.ownsRow_nil _ _ _ _
  · have e1 : List.length zs * Ty.size (.int .i64) = List.length zs := Nat.mul_one _
    rw [e1] at h4
    refine (calls_of_every_depth (fun D => AnyS.slices_Sort_int_in Ly D g 0 cap zs w (holds_of_blockI hg h4) (Array.getElem?_eq_some_iff.1 hg).1 hlt)).mono ?_
    rintro e w' ⟨rfl, n, os, rfl⟩
    refine ⟨_, _, rfl, fun _ => ⟨rfl, hl⟩, RdL_ints.2 rfl, ?_, fun b h => .inl h, grownBy_sortedI _⟩
    rw [hl]
    exact ownsRow_sortedI hl hBg hg h1 h2 h3

theorem compact_len (zs : List Int) : (Lib.compact zs).length ≤ zs.length := by
  unfold Lib.compact compactUpTo
  rw [List.length_map]
  refine Nat.le_trans (List.length_filter_le _ _) ?_
  simp

theorem compact_ok [Glob] (Ly : Lays2.n20 P ρ) (te : TypeId) : (⟨te, .int .i64, [], false, fun zs _ => fCompact zs⟩ : UCon).OK P (ρ.f 20) := by
  rintro zs ⟨⟩ ys hy S w B v0 cs0 us hS hG rfl hzs hown hSb hB
  simp only at hzs hown hy
  obtain ⟨hc, rfl⟩ := cond_some (show cond (ltN (List.length zs) 4611686018427387904) (some (Lib.compact zs)) none = some ys from hy)
  have hlt := of_ltN hc
  have hl := compact_len zs
  rw [RdL_ints] at hzs
  subst hzs
  rcases hown.2 with ⟨rfl, h0⟩ | ⟨g, cap, cur, rfl, hBg, hg, h1, h2, h3, h4⟩
  · have hz : zs = [] := List.length_eq_zero_iff.1 h0
    subst hz
    refine (Any.slices_Compact_int_empty Ly none 0 w).mono ?_
    rintro e w' ⟨rfl, rfl⟩
    exact ⟨_, [], rfl, fun h => (by cases h), RdL_ints.2 rfl, World.ownsRow_nil _ _ _ _, fun b h => .inl h, ⟨rfl, rfl, rfl, Nat.le_refl _, fun _ _ _ => rfl⟩⟩
  · have e1 : List.length zs * Ty.size (.int .i64) = List.length zs := Nat.mul_one _
    rw [e1] at h4
    have h3' : cur.size = cap := by rw [h3]; exact Nat.mul_one _
    refine (Any.slices_Compact_int Ly g 0 cap zs w (holds_of_blockI hg h4) (by omega) h1).mono ?_
    rintro e w' ⟨rfl, q, rfl⟩
    rw [← grow_empty (putRow _ _ _ _ _)]
    refine ⟨_, _, rfl, fun h => (by cases h), RdL_ints.2 rfl, ⟨by rw [List.length_map]; exact (Nat.mul_one _).symm, .inr ⟨g, cap, _, rfl, hBg, heap_sortedI _ hg, by omega, h2, by simp [putCells, h3', Ty.size], ?_⟩⟩, fun b h => .inl h, grownBy_sortedI _⟩
    have ht := take_putCellsI cur (Lib.compact zs ++ List.replicate (List.length zs - (Lib.compact zs).length) 0) (by simp; omega)
    have e2 : (Lib.compact zs).length * Ty.size (.int .i64) = (Lib.compact zs).length := Nat.mul_one _
    rw [e2]
    have := congrArg (List.take (Lib.compact zs).length) ht
    rw [List.take_take, Nat.min_eq_left (by simp), List.map_append] at this
    rw [this]
    exact List.take_left' (by simp)
end Go.Sy
