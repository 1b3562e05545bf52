/-
  What the functions of the reference on clauses compute, as plain functions on lists: no program is named here.
-/
import Derived.Test.YtjifihfkoflbiaaBase
namespace Go.Proofs.Ytjifihfkoflbiaa
open Go.RowKit

def varI (x : Int) : Int := if x < 0 then wrap64 (-x) else x
def goodI (vars l : Int) : Bool := decide (l ≠ 0 ∧ -vars ≤ l ∧ l ≤ vars)
def hasI : List Int → Int → Bool
  | [], _ => false
  | x :: l, n => if x = n then true else hasI l n
/-- Clause, from an element on; the element before, if there is one -/
def clauseI (vars : Int) : Option Int → List Int → Int
  | _, [] => 0
  | none, x :: l => if goodI vars x = true then clauseI vars (some x) l else 2
  | some p, x :: l => if goodI vars x = true then (if varI x ≤ varI p then 14 else clauseI vars (some x) l) else 2
def sizesI (vars : Int) (n : Nat) : Int := if vars < 0 ∨ 4096 < vars then 2 else if 32768 < n then 5 else 0
def clausesI (vars : Int) : List (List Int) → Int
  | [] => 0
  | c :: l => if clauseI vars none c ≠ 0 then clauseI vars none c else clausesI vars l
def checkI (vars : Int) (l : List (List Int)) : Int := if sizesI vars l.length ≠ 0 then sizesI vars l.length else clausesI vars l
def sameI : List Int → List Int → Bool
  | [], [] => true
  | x :: a, y :: b => if x ≠ y then false else sameI a b
  | _, _ => false
def sameAllI : List (List Int) → List (List Int) → Bool
  | [], [] => true
  | x :: a, y :: b => if sameI x y = true then sameAllI a b else false
  | _, _ => false
def trueI : List Int → List Int → Bool
  | [], _ => false
  | x :: c, l => if hasI l x = true then true else trueI c l
def withoutI : List Int → List Int → List Int
  | [], _ => []
  | x :: c, l => if hasI l (wrap64 (-x)) = true then withoutI c l else x :: withoutI c l
/-- step, from an index on -/
def stepI : Nat → List (List Int) → List Int → Option (Nat × List Int)
  | _, [], _ => none
  | i, c :: l, a => if trueI c a = true then stepI (i + 1) l a else if (withoutI c a).length < 2 then some (i, withoutI c a) else stepI (i + 1) l a

/-- the element before an index, if there is one -/
def prevI (zs : List Int) : Nat → Option Int
  | 0 => none
  | k + 1 => zs[k]?
theorem clauseI_bad {vars : Int} {zs : List Int} {k : Nat} (h : k < zs.length) (hx : ¬ goodI vars zs[k] = true) : clauseI vars (prevI zs k) (zs.drop k) = 2 := by
  rw [List.drop_eq_getElem_cons h]
  cases prevI zs k <;> simp [clauseI, hx]
theorem clauseI_zero {vars : Int} {zs : List Int} (h : 0 < zs.length) (hx : goodI vars zs[0] = true) : clauseI vars (prevI zs 0) (zs.drop 0) = clauseI vars (prevI zs 1) (zs.drop 1) := by
  rw [List.drop_eq_getElem_cons h, prevI, clauseI, if_pos hx, prevI, List.getElem?_eq_getElem h]
theorem clauseI_succ {vars : Int} {zs : List Int} {k : Nat} (h : k + 1 < zs.length) (hx : goodI vars zs[k + 1] = true) :
    clauseI vars (prevI zs (k + 1)) (zs.drop (k + 1)) = if varI zs[k + 1] ≤ varI zs[k] then 14 else clauseI vars (prevI zs (k + 1 + 1)) (zs.drop (k + 1 + 1)) := by
  have h1 : prevI zs (k + 1) = some zs[k] := List.getElem?_eq_getElem (by omega)
  have h2 : prevI zs (k + 1 + 1) = some zs[k + 1] := List.getElem?_eq_getElem h
  rw [List.drop_eq_getElem_cons h, h1, h2, clauseI, if_pos hx]

theorem sameI_step {a b : List Int} {k : Nat} (h : k < a.length) (h' : k < b.length) : sameI (a.drop k) (b.drop k) = if a[k] ≠ b[k] then false else sameI (a.drop (k + 1)) (b.drop (k + 1)) := by
  rw [List.drop_eq_getElem_cons h, List.drop_eq_getElem_cons h', sameI]
theorem sameI_len : ∀ {a b : List Int}, a.length ≠ b.length → sameI a b = false
  | [], [], h => absurd rfl h
  | [], y :: b, _ => rfl
  | x :: a, [], _ => rfl
  | x :: a, y :: b, h => by
    simp only [sameI]
    split
    · rfl
    · exact sameI_len (by simpa using h)
theorem sameAllI_step {a b : List (List Int)} {k : Nat} (h : k < a.length) (h' : k < b.length) : sameAllI (a.drop k) (b.drop k) = if sameI a[k] b[k] = true then sameAllI (a.drop (k + 1)) (b.drop (k + 1)) else false := by
  rw [List.drop_eq_getElem_cons h, List.drop_eq_getElem_cons h', sameAllI]
theorem sameAllI_len : ∀ {a b : List (List Int)}, a.length ≠ b.length → sameAllI a b = false
  | [], [], h => absurd rfl h
  | [], y :: b, _ => rfl
  | x :: a, [], _ => rfl
  | x :: a, y :: b, h => by
    simp only [sameAllI]
    split
    · exact sameAllI_len (by simpa using h)
    · rfl
theorem trueI_step {c l : List Int} {k : Nat} (h : k < c.length) : trueI (c.drop k) l = if hasI l c[k] = true then true else trueI (c.drop (k + 1)) l := by
  rw [List.drop_eq_getElem_cons h, trueI]
theorem withoutI_step {c l : List Int} {k : Nat} (h : k < c.length) : withoutI (c.drop k) l = if hasI l (wrap64 (-c[k])) = true then withoutI (c.drop (k + 1)) l else c[k] :: withoutI (c.drop (k + 1)) l := by
  rw [List.drop_eq_getElem_cons h, withoutI]
theorem withoutI_le (c l : List Int) : (withoutI c l).length ≤ c.length := by
  induction c with
  | nil => simp [withoutI]
  | cons x c ih => simp only [withoutI]; split <;> simp <;> omega
theorem stepI_step {l : List (List Int)} {a : List Int} {i k : Nat} (h : k < l.length) : stepI i (l.drop k) a = if trueI l[k] a = true then stepI (i + 1) (l.drop (k + 1)) a else if (withoutI l[k] a).length < 2 then some (i, withoutI l[k] a) else stepI (i + 1) (l.drop (k + 1)) a := by
  rw [List.drop_eq_getElem_cons h, stepI]
def stepIx : Option (Nat × List Int) → Int
  | none => -1
  | some (i, _) => i
def stepOpen : Option (Nat × List Int) → List Int
  | none => []
  | some (_, l) => l

theorem sameI_iff : ∀ (a b : List Int), sameI a b = true ↔ a = b
  | [], [] => by simp [sameI]
  | [], y :: b => by simp [sameI]
  | x :: a, [] => by simp [sameI]
  | x :: a, y :: b => by
    simp only [sameI]
    by_cases h : x = y
    · simp [h, sameI_iff a b]
    · simp [h]
theorem sameAllI_iff : ∀ (a b : List (List Int)), sameAllI a b = true ↔ a = b
  | [], [] => by simp [sameAllI]
  | [], y :: b => by simp [sameAllI]
  | x :: a, [] => by simp [sameAllI]
  | x :: a, y :: b => by
    simp only [sameAllI]
    by_cases h : sameI x y = true
    · simp [(sameI_iff x y).1 h, sameAllI_iff a b, (sameI_iff y y).2 rfl]
    · have hn : x ≠ y := fun e => h ((sameI_iff x y).2 e)
      simp [h, hn]

end Go.Proofs.Ytjifihfkoflbiaa
