/-
  The order of two lists of vertices: a total order.
-/
import Derived.Test.YtjojmdngogineaaSpec26
namespace Go.Proofs.Ytjojmdngogineaa
theorem cmpV_range (x y : Vx) : -1 ≤ cmpV x y ∧ cmpV x y ≤ 1 := by rcases cmpV_cases x y with h | h | h <;> omega
theorem cmpL_range : ∀ (a b : List Vx), -1 ≤ cmpL a b ∧ cmpL a b ≤ 1
  | [], [] => by simp [cmpL]
  | [], _ :: _ => by simp [cmpL]
  | _ :: _, [] => by simp [cmpL]
  | x :: a, y :: b => by
    unfold cmpL
    split
    · exact cmpL_range a b
    · exact cmpV_range x y
theorem cmpL_neg : ∀ (a b : List Vx), cmpL b a = - cmpL a b
  | [], [] => by simp [cmpL]
  | [], _ :: _ => by simp [cmpL]
  | _ :: _, [] => by simp [cmpL]
  | x :: a, y :: b => by
    unfold cmpL
    have h := cmpV_neg x y
    split <;> split
    · exact cmpL_neg a b
    · omega
    · omega
    · exact h
theorem cmpL_trans : ∀ (a b c : List Vx), cmpL a b ≤ 0 → cmpL b c ≤ 0 → cmpL a c ≤ 0 ∧ (cmpL a c = 0 → 0 ≤ cmpL a b + cmpL b c)
  | [], [], [], _, _ => by simp [cmpL]
  | [], [], _ :: _, _, _ => by simp [cmpL]
  | [], _ :: _, [], _, h => by simp [cmpL] at h
  | [], _ :: _, _ :: _, _, _ => by simp [cmpL]
  | _ :: _, [], _, h, _ => by simp [cmpL] at h
  | _ :: _, _ :: _, [], _, h => by simp [cmpL] at h
  | x :: a, y :: b, z :: c, h, h' => by
    have ih := cmpL_trans a b c
    unfold cmpL at h h' ⊢
    have r1 := cmpV_range x y
    have r2 := cmpV_range y z
    by_cases e1 : cmpV x y = 0
    · have := cmpV_eq.1 e1
      subst this
      rw [if_pos e1] at h ⊢
      by_cases e2 : cmpV x z = 0
      · simp only [e2, if_true] at h' ⊢
        exact ih h h'
      · rw [if_neg e2] at h'
        rw [if_neg e2]
        exact ⟨h', fun h0 => absurd h0 e2⟩
    · rw [if_neg e1] at h ⊢
      by_cases e2 : cmpV y z = 0
      · have := cmpV_eq.1 e2
        subst this
        rw [if_neg e1]
        omega
      · rw [if_neg e2] at h' ⊢
        have e3 := cmpV_trans (by omega : cmpV x y < 0) (by omega : cmpV y z < 0)
        rw [if_neg (by omega)]
        omega
theorem cmpL_take : ∀ (a : List Vx) (i : Nat), i < a.length → cmpL (a.take i) a = -1
  | [], i, h => by simp at h
  | x :: a, 0, h => by simp [cmpL]
  | x :: a, i + 1, h => by
    rw [List.take_succ_cons]
    unfold cmpL
    rw [if_pos (cmpV_eq.2 rfl)]
    exact cmpL_take a i (by simpa using h)
end Go.Proofs.Ytjojmdngogineaa
