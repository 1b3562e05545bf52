/-
  Sorted lists of vertices, one of each kept.
-/
import Derived.Test.YtjojmdngogineaaSpec26
namespace Go.Proofs.Ytjojmdngogineaa
def SortV (xs : List Vx) : Prop := xs.Pairwise fun a b => ¬ cmpV b a < 0
def GoodC (xs : List Vx) (m : Nat) (zs : List Vx) : Prop := Asc zs ∧ (∀ v, v ∈ zs ↔ v ∈ xs.take m) ∧ zs.getLast? = xs[m - 1]?
theorem asc_last {zs : List Vx} {l : Vx} (h : Asc zs) (hl : zs.getLast? = some l) : ∀ a ∈ zs, a = l ∨ cmpV a l < 0 := by
  obtain ⟨ys, rfl⟩ := List.getLast?_eq_some_iff.1 hl
  intro a ha
  rcases List.mem_append.1 ha with ha | ha
  · exact .inr ((List.pairwise_append.1 h).2.2 a ha l (by simp))
  · exact .inl (by simpa using ha)
theorem good_start {xs : List Vx} (h : 1 ≤ xs.length) : GoodC xs 1 (xs.take 1) := by
  match xs, h with
  | x :: l, _ => exact ⟨by simp [Asc], fun v => Iff.rfl, by simp⟩
theorem good_push {xs zs : List Vx} {m : Nat} (hs : SortV xs) (h : GoodC xs m zs) (h1 : 1 ≤ m) (h2 : m < xs.length) (hne : xs[m] ≠ xs[m - 1]'(by omega)) : GoodC xs (m + 1) (zs ++ [xs[m]]) := by
  obtain ⟨ha, hm, hl⟩ := h
  rw [List.getElem?_eq_getElem (by omega : m - 1 < xs.length)] at hl
  have hlt : cmpV (xs[m - 1]'(by omega)) xs[m] < 0 := by
    have h3 := (List.pairwise_iff_getElem.1 hs) (m - 1) m (by omega) h2 (by omega)
    rcases cmpV_cases (xs[m - 1]'(by omega)) xs[m] with k | k | k
    · omega
    · omega
    · exact absurd k.2.2.symm hne
  refine ⟨List.pairwise_append.2 ⟨ha, by simp, fun a haz b hb => ?_⟩, fun v => ?_, by simp [h2]⟩
  · have hb' : b = xs[m] := by simpa using hb
    subst hb'
    rcases asc_last ha hl a haz with rfl | h4
    · exact hlt
    · exact cmpV_trans h4 hlt
  · rw [List.mem_append, hm, mem_take_snoc h2]; simp
theorem good_skip {xs zs : List Vx} {m : Nat} (h : GoodC xs m zs) (h1 : 1 ≤ m) (h2 : m < xs.length) (he : xs[m] = xs[m - 1]'(by omega)) : GoodC xs (m + 1) zs := by
  obtain ⟨ha, hm, hl⟩ := h
  refine ⟨ha, fun v => ?_, ?_⟩
  · rw [hm, mem_take_snoc h2]
    refine ⟨.inl, fun h => h.elim id fun h => ?_⟩
    rw [h, he, List.mem_take_iff_getElem]
    exact ⟨m - 1, by omega, rfl⟩
  · rw [hl, Nat.add_sub_cancel, List.getElem?_eq_getElem h2, List.getElem?_eq_getElem (by omega), he]
theorem good_end {xs zs : List Vx} {m : Nat} (h : GoodC xs m zs) (h2 : xs.length ≤ m) : Asc zs ∧ ∀ v, v ∈ zs ↔ v ∈ xs := ⟨h.1, fun v => by rw [h.2.1, List.take_of_length_le h2]⟩
end Go.Proofs.Ytjojmdngogineaa
