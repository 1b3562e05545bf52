/-
  What the functions of the reference on refutations compute, as plain functions on lists: no program is named here.
-/
import Derived.Test.YtjifihfkoflbiaaSpec41
namespace Go.Proofs.Ytjifihfkoflbiaa
open Go.RowKit

def negI (c : List Int) : List Int := c.map fun x => wrap64 (-x)
/-- how many literals of the clauses are not in a list -/
def openI (c : List (List Int)) (a : List Int) : Nat := (c.flatten.filter fun x => !hasI a x).length
def unitsF : Nat → List (List Int) → List Int → List Int × Int
  | 0, c, a => (a, stepIx (stepI 0 c a))
  | n + 1, c, a => match stepI 0 c a with
    | some (_, [x]) => unitsF n c (a ++ [x])
    | r => (a, stepIx r)
def unitsI (c : List (List Int)) (a : List Int) : List Int × Int := unitsF (openI c a) c a
def followsI (c : List (List Int)) (x : List Int) : Bool := decide (0 ≤ (unitsI c (negI x)).2)
def gapF : Nat → List (List Int) → List (List Int) → Option Nat
  | _, _, [] => none
  | i, l, c :: p => if followsI l c = true then gapF (i + 1) (l ++ [c]) p else some i
def lastBad (p : List (List Int)) : Bool := match p.getLast? with
  | none => true
  | some c => decide (0 < c.length)
def gapI (l p : List (List Int)) : Int := match gapF 0 l p with
  | some i => i
  | none => if lastBad p = true then p.length else -1
def refutesI (l p : List (List Int)) : Bool := decide (gapI l p < 0)
/-- the index of the first clause with an error, and the error -/
def badI (vars : Int) : Nat → List (List Int) → Option (Nat × Int)
  | _, [] => none
  | i, c :: p => if clauseI vars none c ≠ 0 then some (i, clauseI vars none c) else badI vars (i + 1) p
def verifyI (vars : Int) (l p : List (List Int)) : Int × Int :=
  if checkI vars l ≠ 0 then (0, checkI vars l) else if 32768 < p.length then (0, 5) else
  match badI vars 0 p with
  | some r => (r.1, r.2)
  | none => if 0 ≤ gapI l p then (gapI l p, 18) else (0, 0)
def impliedI (vars : Int) (l : List (List Int)) (c : List Int) : Bool × Int :=
  if checkI vars l ≠ 0 then (false, checkI vars l) else if clauseI vars none c ≠ 0 then (false, clauseI vars none c) else (followsI l c, 0)
def emptyI (vars : Int) (l : List (List Int)) : Bool × Int := if checkI vars l ≠ 0 then (false, checkI vars l) else (followsI l [], 0)
def remI {α : Type} (l : List α) (i : Nat) : List α := l.take i ++ l.drop (i + 1)
/-- from the element before an index down to the first one: left out where what remains will do -/
def prune {α : Type} (ok : List α → Bool) : Nat → List α → List α
  | 0, l => l
  | i + 1, l => prune ok i (if ok (remI l i) = true then remI l i else l)
def trimI (l p : List (List Int)) : List (List Int) := prune (refutesI l) (p.length - 1) p
def chosenI (l : List (List Int)) (which : List Int) : List (List Int) := which.map fun i => l.getD i.toNat []
def upI (n : Nat) : List Int := (List.range n).map Int.ofNat
def coreI (l p : List (List Int)) : List Int := prune (fun x => refutesI (chosenI l x) p) l.length (upI l.length)
/-- Few, from an index on -/
def few2I : Nat → List (List Int) → Bool
  | _, [] => true
  | i, c :: l => if i < 40 then (if 20 < c.length then false else few2I (i + 1) l) else true
def few2B (p : List (List Int)) : Bool := if few2I 0 p = true then decide (p.length ≤ 20 ∨ 32768 < p.length) else false

theorem sizesI_zero {vars : Int} {n : Nat} (h : sizesI vars n = 0) : 0 ≤ vars ∧ vars ≤ 4096 ∧ n ≤ 32768 := by
  unfold sizesI at h
  by_cases h1 : vars < 0 ∨ 4096 < vars
  · rw [if_pos h1] at h; omega
  · rw [if_neg h1] at h
    by_cases h2 : 32768 < n
    · rw [if_pos h2] at h; omega
    · omega
theorem checkI_zero {vars : Int} {l : List (List Int)} (h : checkI vars l = 0) : 0 ≤ vars ∧ vars ≤ 4096 ∧ l.length ≤ 32768 ∧ clausesI vars l = 0 := by
  unfold checkI at h
  by_cases h1 : sizesI vars l.length = 0
  · rw [if_neg (by simp [h1])] at h
    have := sizesI_zero h1
    exact ⟨this.1, this.2.1, this.2.2, h⟩
  · rw [if_pos h1] at h; exact absurd h h1

theorem few2I_step {l : List (List Int)} {k : Nat} (h : k < l.length) : few2I k (l.drop k) = if k < 40 then (if 20 < (l[k]).length then false else few2I (k + 1) (l.drop (k + 1))) else true := by
  rw [List.drop_eq_getElem_cons h, few2I]
theorem gapF_step {l p : List (List Int)} {k i : Nat} (h : k < p.length) : gapF i l (p.drop k) = if followsI l p[k] = true then gapF (i + 1) (l ++ [p[k]]) (p.drop (k + 1)) else some i := by
  rw [List.drop_eq_getElem_cons h, gapF]
theorem badI_step {vars : Int} {p : List (List Int)} {k i : Nat} (h : k < p.length) : badI vars i (p.drop k) = if clauseI vars none p[k] ≠ 0 then some (i, clauseI vars none p[k]) else badI vars (i + 1) (p.drop (k + 1)) := by
  rw [List.drop_eq_getElem_cons h, badI]
theorem negI_step {c : List Int} {k : Nat} (h : k < c.length) : negI (c.drop k) = wrap64 (-c[k]) :: negI (c.drop (k + 1)) := by
  rw [List.drop_eq_getElem_cons h]; rfl
theorem chosenI_step {l : List (List Int)} {c : List Int} {k : Nat} (h : k < c.length) : chosenI l (c.drop k) = l.getD (c[k]).toNat [] :: chosenI l (c.drop (k + 1)) := by
  rw [List.drop_eq_getElem_cons h]; rfl

theorem hasI_iff : ∀ {l : List Int} {n : Int}, hasI l n = true ↔ n ∈ l
  | [], n => by simp [hasI]
  | x :: l, n => by
    simp only [hasI, List.mem_cons]
    by_cases h : x = n
    · simp [h]
    · simp only [if_neg h, hasI_iff]; constructor
      · exact .inr
      · rintro (rfl | h'); exact absurd rfl h; exact h'
theorem trueI_iff : ∀ {c l : List Int}, trueI c l = true ↔ ∃ x ∈ c, x ∈ l
  | [], l => by simp [trueI]
  | x :: c, l => by
    simp only [trueI]
    by_cases h : hasI l x = true
    · simp only [h, if_true, true_iff]; exact ⟨x, by simp, hasI_iff.1 h⟩
    · rw [if_neg h, trueI_iff]
      simp only [List.mem_cons]
      constructor
      · rintro ⟨y, hy, h'⟩; exact ⟨y, .inr hy, h'⟩
      · rintro ⟨y, rfl | hy, h'⟩
        · exact absurd (hasI_iff.2 h') h
        · exact ⟨y, hy, h'⟩
theorem withoutI_mem : ∀ {c l : List Int} {x : Int}, x ∈ withoutI c l ↔ x ∈ c ∧ wrap64 (-x) ∉ l
  | [], l, x => by simp [withoutI]
  | y :: c, l, x => by
    simp only [withoutI]
    by_cases h : hasI l (wrap64 (-y)) = true
    · simp only [h, if_true, withoutI_mem, List.mem_cons]
      constructor
      · rintro ⟨a, b⟩; exact ⟨.inr a, b⟩
      · rintro ⟨rfl | a, b⟩
        · exact absurd (hasI_iff.1 h) b
        · exact ⟨a, b⟩
    · rw [if_neg h]
      simp only [List.mem_cons, withoutI_mem]
      have h' : wrap64 (-y) ∉ l := fun hc => h (hasI_iff.2 hc)
      constructor
      · rintro (rfl | ⟨a, b⟩)
        · exact ⟨.inl rfl, h'⟩
        · exact ⟨.inr a, b⟩
      · rintro ⟨rfl | a, b⟩
        · exact .inl rfl
        · exact .inr ⟨a, b⟩
/-- what a step finds: the first clause that is not true and has fewer than two open literals -/
theorem stepI_some : ∀ {c : List (List Int)} {a : List Int} {k i : Nat} {o : List Int}, stepI k c a = some (i, o) → k ≤ i ∧ i < k + c.length ∧ ∃ x ∈ c, trueI x a = false ∧ o = withoutI x a ∧ o.length < 2
  | [], a, k, i, o, h => by simp [stepI] at h
  | x :: c, a, k, i, o, h => by
    simp only [stepI] at h
    by_cases ht : trueI x a = true
    · rw [if_pos ht] at h
      obtain ⟨h1, h2, y, hy, r⟩ := stepI_some h
      exact ⟨by omega, by simp; omega, y, by simp [hy], r⟩
    · rw [if_neg ht] at h
      by_cases hl : (withoutI x a).length < 2
      · rw [if_pos hl] at h
        simp only [Option.some.injEq, Prod.mk.injEq] at h
        obtain ⟨rfl, rfl⟩ := h
        exact ⟨Nat.le_refl _, by simp, x, by simp, by simpa using ht, rfl, hl⟩
      · rw [if_neg hl] at h
        obtain ⟨h1, h2, y, hy, r⟩ := stepI_some h
        exact ⟨by omega, by simp; omega, y, by simp [hy], r⟩
theorem stepI_none : ∀ {c : List (List Int)} {a : List Int} {k : Nat}, stepI k c a = none → ∀ x ∈ c, trueI x a = true ∨ 2 ≤ (withoutI x a).length
  | [], a, k, h => by simp
  | x :: c, a, k, h => by
    simp only [stepI] at h
    by_cases ht : trueI x a = true
    · rw [if_pos ht] at h
      intro y hy
      rcases List.mem_cons.1 hy with rfl | hy
      · exact .inl ht
      · exact stepI_none h y hy
    · rw [if_neg ht] at h
      by_cases hl : (withoutI x a).length < 2
      · rw [if_pos hl] at h; cases h
      · rw [if_neg hl] at h
        intro y hy
        rcases List.mem_cons.1 hy with rfl | hy
        · exact .inr (by omega)
        · exact stepI_none h y hy

theorem filter_length_lt {α : Type} {p q : α → Bool} : ∀ {l : List α}, (∀ x, q x = true → p x = true) → ∀ {y : α}, y ∈ l → p y = true → q y = false → (l.filter q).length < (l.filter p).length
  | [], _, y, hy, _, _ => by cases hy
  | x :: l, h, y, hy, h1, h2 => by
    have hle : (l.filter q).length ≤ (l.filter p).length := by
      clear hy h1 h2
      induction l with
      | nil => simp
      | cons z l ih =>
        simp only [List.filter_cons]
        by_cases hq : q z = true
        · simp only [hq, h z hq, if_true, List.length_cons]; omega
        · by_cases hp : p z = true
          · simp only [hq, hp, if_true, Bool.false_eq_true, if_false, List.length_cons]; omega
          · simp only [hq, hp, Bool.false_eq_true, if_false]; exact ih
    rcases List.mem_cons.1 hy with rfl | hy
    · simp only [List.filter_cons, h1, h2, if_true, Bool.false_eq_true, if_false, List.length_cons]; omega
    · have ih := filter_length_lt h hy h1 h2
      simp only [List.filter_cons]
      by_cases hq : q x = true
      · simp only [hq, h x hq, if_true, List.length_cons]; omega
      · by_cases hp : p x = true
        · simp only [hq, hp, if_true, Bool.false_eq_true, if_false, List.length_cons]; omega
        · simp only [hq, hp, Bool.false_eq_true, if_false]; exact ih

theorem openI_lt {c : List (List Int)} {a : List Int} {i : Nat} {x : Int} (h : stepI 0 c a = some (i, [x])) : openI c (a ++ [x]) < openI c a := by
  obtain ⟨_, _, cl, hcl, ht, ho, _⟩ := stepI_some h
  have hx : x ∈ withoutI cl a := by rw [← ho]; simp
  have hxc := (withoutI_mem.1 hx).1
  have hna : x ∉ a := fun hc => by
    have : trueI cl a = true := trueI_iff.2 ⟨x, hxc, hc⟩
    rw [ht] at this; cases this
  refine filter_length_lt (fun y hy => ?_) (y := x) (List.mem_flatten.2 ⟨cl, hcl, hxc⟩) ?_ ?_
  · simp only [Bool.not_eq_true', ← Bool.not_eq_true, hasI_iff, List.mem_append] at hy ⊢
    exact fun hc => hy (.inl hc)
  · simp only [Bool.not_eq_true', ← Bool.not_eq_true, hasI_iff]; exact hna
  · simp only [Bool.not_eq_false', hasI_iff]; simp
theorem unitsF_ge : ∀ {n m : Nat} {c : List (List Int)} {a : List Int}, openI c a ≤ n → openI c a ≤ m → unitsF n c a = unitsF m c a
  | 0, 0, c, a, _, _ => rfl
  | 0, m + 1, c, a, h, _ => by
    unfold unitsF
    split
    · rename_i i x hs; have := openI_lt hs; omega
    · rfl
  | n + 1, 0, c, a, _, h => by
    unfold unitsF
    split
    · rename_i i x hs; have := openI_lt hs; omega
    · rfl
  | n + 1, m + 1, c, a, h1, h2 => by
    unfold unitsF
    split
    · rename_i i x hs; have := openI_lt hs; exact unitsF_ge (by omega) (by omega)
    · rfl
theorem unitsI_more {c : List (List Int)} {a : List Int} {i : Nat} {x : Int} (h : stepI 0 c a = some (i, [x])) : unitsI c a = unitsI c (a ++ [x]) := by
  have hl := openI_lt h
  unfold unitsI
  have e1 : unitsF (openI c a) c a = unitsF (openI c a - 1 + 1) c a := by congr 1; omega
  rw [e1, unitsF, h]
  exact unitsF_ge (by omega) (Nat.le_refl _)
theorem unitsI_end {c : List (List Int)} {a : List Int} (h : ∀ i x, stepI 0 c a ≠ some (i, [x])) : unitsI c a = (a, stepIx (stepI 0 c a)) := by
  unfold unitsI
  cases openI c a with
  | zero => rfl
  | succ n =>
    unfold unitsF
    split
    · rename_i i x hs; exact absurd hs (h i x)
    · rfl

end Go.Proofs.Ytjifihfkoflbiaa
