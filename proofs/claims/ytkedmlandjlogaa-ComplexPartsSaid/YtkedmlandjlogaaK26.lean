/-
  Part 26 of the texts that the claims of this seat lean on: walks of the program's functions by contracts over symbolic frames, and plain laws of what they compute. No condition.
-/
import Derived.Test.YtkedmlandjlogaaK8
import Derived.Test.YtkedmlandjlogaaK13
set_option linter.unusedVariables false
set_option linter.unusedSimpArgs false
set_option linter.unusedSectionVars false
namespace Go.Proofs.Ytkedmlandjlogaa
theorem mem_shared {a b : List Vx} {p : Bool} {x : Vx} : x ∈ sharedV a b p ↔ x ∈ a ∧ decide (x ∈ b) = p := by unfold sharedV; rw [List.mem_filter]; simp
theorem shared_sub {a b : List Vx} {p : Bool} : (sharedV a b p).Sublist a := List.filter_sublist
theorem asc_shared {a b : List Vx} {p : Bool} (h : Asc a) : Asc (sharedV a b p) := List.Pairwise.sublist shared_sub h
theorem sub_good {a s : List Vx} (ha : chkV a = 0) (hs : s.Sublist a) (hne : s ≠ []) : chkV s = 0 := by
  obtain ⟨h1, h2, h3, h4⟩ := chkV_zero.1 ha
  refine chkV_zero.2 ⟨fun h => hne (List.eq_nil_of_length_eq_zero h), Nat.le_trans hs.length_le h2, fun v hv => h3 v (hs.subset hv), List.Pairwise.sublist hs h4⟩
theorem ne_nil {s : List Vx} (h : 0 < s.length) : s ≠ [] := fun e => by subst e; simp at h
end Go.Proofs.Ytkedmlandjlogaa
namespace Go.Proofs.Ytkedmlandjlogaa
theorem subsV_mem : ∀ (k : Nat) (s x : List Vx), x ∈ subsV k s ↔ x.Sublist s ∧ x.length = k
  | 0, s, x => by
    have : subsV 0 s = [[]] := by unfold subsV; rfl
    rw [this, List.mem_singleton]
    constructor
    · rintro rfl; exact ⟨List.nil_sublist _, rfl⟩
    · rintro ⟨_, h⟩; exact List.eq_nil_of_length_eq_zero h
  | k + 1, [], x => by
    simp only [subsV, List.not_mem_nil, List.sublist_nil, false_iff]
    rintro ⟨rfl, h⟩; simp at h
  | k + 1, v :: s, x => by
    unfold subsV
    rw [List.mem_append, List.mem_map, subsV_mem (k + 1) s x]
    constructor
    · rintro (⟨y, hy, rfl⟩ | ⟨h1, h2⟩)
      · obtain ⟨h1, h2⟩ := (subsV_mem k s y).1 hy
        exact ⟨h1.cons_cons v, by simp [h2]⟩
      · exact ⟨h1.cons v, h2⟩
    · rintro ⟨h1, h2⟩
      rcases List.sublist_cons_iff.1 h1 with h | ⟨y, rfl, h⟩
      · exact .inr ⟨h, h2⟩
      · exact .inl ⟨y, (subsV_mem k s y).2 ⟨h, by simpa using h2⟩, rfl⟩
theorem subsV_zero (s : List Vx) : (subsV 0 s).length = 1 := by unfold subsV; rfl
theorem subsV_next (k : Nat) (v : Vx) (s : List Vx) : (subsV (k + 1) (v :: s)).length = (subsV k s).length + (subsV (k + 1) s).length := by
  conv => lhs; unfold subsV
  rw [List.length_append, List.length_map]
theorem subsV_card : ∀ (s : List Vx) (k : Nat), (subsV (k + 1) s).length * (k + 1) + (subsV k s).length * k = (subsV k s).length * s.length
  | [], 0 => by simp [subsV]
  | [], k + 1 => by simp [subsV]
  | v :: s, 0 => by
    have := subsV_card s 0
    rw [subsV_next, subsV_zero, subsV_zero] at *
    simp only [List.length_cons]
    omega
  | v :: s, k + 1 => by
    have h1 := subsV_card s k
    have h2 := subsV_card s (k + 1)
    rw [subsV_next, subsV_next]
    generalize (subsV k s).length = a at *
    generalize (subsV (k + 1) s).length = b at *
    generalize (subsV (k + 1 + 1) s).length = c at *
    simp only [List.length_cons]
    generalize s.length = n at *
    simp only [Nat.mul_add, Nat.add_mul, Nat.mul_one] at *
    omega
theorem subsV_all : ∀ (s : List Vx), (subsV s.length s).length = 1
  | [] => rfl
  | v :: s => by
    rw [List.length_cons, subsV_next, subsV_all s, subsV_short (s.length + 1) s (by omega)]; rfl
theorem subsV_most {s : List Vx} {k : Nat} (h : s.length = k + 1) : (subsV k s).length = k + 1 := by
  have h1 := subsV_card s k
  have h2 := subsV_all s
  rw [h] at h1 h2
  rw [h2] at h1
  simp only [Nat.mul_add, Nat.mul_one, Nat.one_mul] at h1
  omega
theorem cmpL_cons (v : Vx) (a b : List Vx) : cmpL (v :: a) (v :: b) = cmpL a b := by
  conv => lhs; unfold cmpL
  rw [if_pos (cmpV_eq.2 rfl)]
theorem subsV_sorted : ∀ (k : Nat) (s : List Vx), Asc s → (subsV k s).Pairwise fun a b => cmpL a b = -1
  | 0, s, _ => by unfold subsV; exact List.pairwise_singleton _ _
  | k + 1, [], _ => by unfold subsV; exact List.Pairwise.nil
  | k + 1, v :: s, h => by
    obtain ⟨h1, h2⟩ := List.pairwise_cons.1 h
    unfold subsV
    rw [List.pairwise_append]
    refine ⟨List.pairwise_map.2 (List.Pairwise.imp (fun {a b} hab => by rw [cmpL_cons]; exact hab) (subsV_sorted k s h2)), subsV_sorted (k + 1) s h2, fun a ha b hb => ?_⟩
    obtain ⟨a', _, rfl⟩ := List.mem_map.1 ha
    obtain ⟨hb1, hb2⟩ := (subsV_mem _ _ _).1 hb
    match b, hb1, hb2 with
    | w :: b', hb1, _ =>
      have hw : w ∈ s := hb1.subset (by simp)
      have hvw := h1 w hw
      have := cmpV_range v w
      unfold cmpL
      rw [if_neg (by omega)]
      omega
theorem face_good {a s : List Vx} {k : Nat} (hs : chkV s = 0) (hk : 0 < k) (h : a ∈ subsV k s) : chkV a = 0 ∧ a.Sublist s ∧ a.length = k := by
  obtain ⟨h1, h2⟩ := (subsV_mem _ _ _).1 h
  exact ⟨sub_good hs h1 (ne_nil (by omega)), h1, h2⟩
theorem facesV_good {s : List Vx} (hs : chkV s = 0) {k : Nat} (h1 : 0 < k) (h2 : k ≤ s.length) : facesV s k = (subsV k s, 0) := by
  unfold facesV
  rw [if_neg (by simp [hs]), if_neg (by omega)]
  simp
end Go.Proofs.Ytkedmlandjlogaa
