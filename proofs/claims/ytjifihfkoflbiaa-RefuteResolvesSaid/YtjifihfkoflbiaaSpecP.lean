/-
  What the program's prover computes, as plain functions on lists: no program is named here.
-/
import Derived.Test.YtjifihfkoflbiaaSpec42
namespace Go.Proofs.Ytjifihfkoflbiaa
open Go.RowKit

def valI (vals : List Int) (x : Int) : Int := if x < 0 then -(vals.getD (-x).toNat 0) else vals.getD x.toNat 0
def setI (vals : List Int) (x : Int) : List Int := if x < 0 then vals.set (-x).toNat (-1) else vals.set x.toNat 1
/-- unit, from an index on, a literal being open (0: none so far) -/
def unitI (vals : List Int) : Int → List Int → Int × Bool
  | o, [] => (o, decide (o = 0))
  | o, x :: c => if 0 < valI vals x ∨ (valI vals x = 0 ∧ o ≠ 0) then (0, false) else if valI vals x = 0 then unitI vals x c else unitI vals o c
/-- one pass over the clauses: none where one is false; otherwise the values, and whether any turned -/
def passF : List (List Int) → List Int → Bool → Option (List Int × Bool)
  | [], vals, ch => some (vals, ch)
  | c :: l, vals, ch => if (unitI vals 0 c).2 = true then none else if (unitI vals 0 c).1 ≠ 0 then passF l (setI vals (unitI vals 0 c).1) true else passF l vals ch
def conflictF : Nat → List (List Int) → List Int → Bool
  | 0, _, _ => false
  | n + 1, l, vals => match passF l vals false with
    | none => true
    | some (v, true) => conflictF n l v
    | some (_, false) => false
def conflictI (l : List (List Int)) (vals : List Int) : Bool := conflictF (vals.count 0 + 1) l vals
/-- the values are signs -/
def Signs (vals : List Int) : Prop := ∀ v ∈ vals, -1 ≤ v ∧ v ≤ 1
/-- the literals have values -/
def InR (m : Nat) (l : List (List Int)) : Prop := ∀ c ∈ l, ∀ x ∈ c, x.natAbs < m

theorem setI_length (vals : List Int) (x : Int) : (setI vals x).length = vals.length := by unfold setI; split <;> simp
theorem setI_signs {vals : List Int} (h : Signs vals) (x : Int) : Signs (setI vals x) := by
  intro v hv
  unfold setI at hv
  split at hv
  · rcases List.mem_or_eq_of_mem_set hv with h' | rfl
    · exact h v h'
    · omega
  · rcases List.mem_or_eq_of_mem_set hv with h' | rfl
    · exact h v h'
    · omega
theorem unitI_open {vals : List Int} : ∀ {c : List Int} {o : Int}, (unitI vals o c).1 ≠ 0 → (unitI vals o c).1 = o ∨ ((unitI vals o c).1 ∈ c ∧ valI vals (unitI vals o c).1 = 0)
  | [], o, _ => .inl rfl
  | x :: c, o, h => by
    simp only [unitI] at h ⊢
    split
    · rename_i h1; rw [if_pos h1] at h; exact absurd rfl h
    · rename_i h1
      rw [if_neg h1] at h
      split
      · rename_i h2
        rw [if_pos h2] at h
        rcases unitI_open h with e | ⟨e1, e2⟩
        · exact .inr ⟨by rw [e]; simp, by rw [e]; exact h2⟩
        · exact .inr ⟨by simp [e1], e2⟩
      · rename_i h2
        rw [if_neg h2] at h
        rcases unitI_open h with e | ⟨e1, e2⟩
        · exact .inl e
        · exact .inr ⟨by simp [e1], e2⟩
theorem unitI_mem {vals : List Int} {c : List Int} (h : (unitI vals 0 c).1 ≠ 0) : (unitI vals 0 c).1 ∈ c ∧ valI vals (unitI vals 0 c).1 = 0 :=
  (unitI_open h).resolve_left h
theorem setI_count {vals : List Int} {x : Int} (hx : x.natAbs < vals.length) (h : valI vals x = 0) : (setI vals x).count 0 < vals.count 0 := by
  unfold valI at h
  unfold setI
  by_cases hn : x < 0
  · rw [if_pos hn] at h ⊢
    have hk : (-x).toNat < vals.length := by omega
    rw [List.getD_eq_getElem?_getD, List.getElem?_eq_getElem hk, Option.getD_some] at h
    have h0 : vals[(-x).toNat] = 0 := by omega
    have hm : 0 < vals.count 0 := List.count_pos_iff.2 (h0 ▸ List.getElem_mem hk)
    rw [List.count_set hk, h0]
    simp; omega
  · rw [if_neg hn] at h ⊢
    have hk : x.toNat < vals.length := by omega
    rw [List.getD_eq_getElem?_getD, List.getElem?_eq_getElem hk, Option.getD_some] at h
    have hm : 0 < vals.count 0 := List.count_pos_iff.2 (h ▸ List.getElem_mem hk)
    rw [List.count_set hk, h]
    simp; omega
theorem passF_some : ∀ {l : List (List Int)} {vals v : List Int} {ch ch' : Bool}, InR vals.length l → passF l vals ch = some (v, ch') → v.length = vals.length ∧ v.count 0 ≤ vals.count 0 ∧ (ch' = true → ch = true ∨ v.count 0 < vals.count 0) ∧ (Signs vals → Signs v)
  | [], vals, v, ch, ch', _, h => by
    simp only [passF, Option.some.injEq, Prod.mk.injEq] at h
    obtain ⟨rfl, rfl⟩ := h
    exact ⟨rfl, Nat.le_refl _, .inl, id⟩
  | c :: l, vals, v, ch, ch', hr, h => by
    simp only [passF] at h
    split at h
    · cases h
    · split at h
      · rename_i h2
        obtain ⟨hm, hz⟩ := unitI_mem h2
        have hlt := setI_count (hr c (by simp) _ hm) hz
        have hr' : InR (setI vals (unitI vals 0 c).1).length l := by rw [setI_length]; exact fun d hd => hr d (by simp [hd])
        obtain ⟨e1, e2, _, e4⟩ := passF_some hr' h
        rw [setI_length] at e1
        exact ⟨e1, by omega, fun _ => .inr (by omega), fun hs => e4 (setI_signs hs _)⟩
      · exact passF_some (fun d hd => hr d (by simp [hd])) h
theorem conflictF_ge : ∀ {n m : Nat} {l : List (List Int)} {vals : List Int}, InR vals.length l → vals.count 0 < n → vals.count 0 < m → conflictF n l vals = conflictF m l vals
  | 0, _, _, _, _, h, _ => absurd h (Nat.not_lt_zero _)
  | _ + 1, 0, _, _, _, _, h => absurd h (Nat.not_lt_zero _)
  | n + 1, m + 1, l, vals, hr, h1, h2 => by
    simp only [conflictF]
    split
    · rfl
    · rename_i v hp
      obtain ⟨e1, _, e3, _⟩ := passF_some hr hp
      have := (e3 rfl).resolve_left (by simp)
      exact conflictF_ge (by rw [e1]; exact hr) (by omega) (by omega)
    · rfl
theorem conflictI_step {l : List (List Int)} {vals : List Int} (hr : InR vals.length l) : conflictI l vals = match passF l vals false with
    | none => true
    | some (v, true) => conflictI l v
    | some (_, false) => false := by
  unfold conflictI
  rw [conflictF]
  split
  · rfl
  · rename_i v hp
    obtain ⟨e1, _, e3, _⟩ := passF_some hr hp
    have := (e3 rfl).resolve_left (by simp)
    exact conflictF_ge (by rw [e1]; exact hr) (by omega) (by omega)
  · rfl

/-- the values behind the negations of a clause -/
def startI (m : Nat) (c : List Int) : List Int := c.foldl (fun v x => setI v (-x)) (List.replicate m 0)

theorem startI_snoc (m : Nat) (c : List Int) (x : Int) : startI m (c ++ [x]) = setI (startI m c) (-x) := by simp [startI]
theorem startI_length (m : Nat) (c : List Int) : (startI m c).length = m := by
  have : ∀ (c : List Int) (v : List Int), (c.foldl (fun v x => setI v (-x)) v).length = v.length := by
    intro c
    induction c with
    | nil => intro v; rfl
    | cons x c ih => intro v; rw [List.foldl_cons, ih, setI_length]
  unfold startI
  rw [this]; simp
theorem startI_signs (m : Nat) (c : List Int) : Signs (startI m c) := by
  have : ∀ (c : List Int) (v : List Int), Signs v → Signs (c.foldl (fun v x => setI v (-x)) v) := by
    intro c
    induction c with
    | nil => intro v h; exact h
    | cons x c ih => intro v h; exact ih _ (setI_signs h _)
  refine this _ _ (fun v hv => ?_)
  rw [List.mem_replicate] at hv
  omega

end Go.Proofs.Ytjifihfkoflbiaa
