/-
  What two simplices share, and what each has alone, divide their union; intersections distribute over unions.
-/
import Derived.Test.YtjojmdngogineaaSpec26
namespace Go.Proofs.Ytjojmdngogineaa
theorem mem_shared {a b : List Vx} {p : Bool} {x : Vx} : x ∈ sharedV a b p ↔ x ∈ a ∧ decide (x ∈ b) = p := by unfold sharedV; rw [List.mem_filter]; simp
theorem shared_sub {a b : List Vx} {p : Bool} : (sharedV a b p).Sublist a := List.filter_sublist
theorem asc_shared {a b : List Vx} {p : Bool} (h : Asc a) : Asc (sharedV a b p) := List.Pairwise.sublist shared_sub h
theorem sub_good {a s : List Vx} (ha : chkV a = 0) (hs : s.Sublist a) (hne : s ≠ []) : chkV s = 0 := by
  obtain ⟨h1, h2, h3, h4⟩ := chkV_zero.1 ha
  refine chkV_zero.2 ⟨fun h => hne (List.eq_nil_of_length_eq_zero h), Nat.le_trans hs.length_le h2, fun v hv => h3 v (hs.subset hv), List.Pairwise.sublist hs h4⟩
theorem all_good {a b : List Vx} (ha : chkV a = 0) (hb : chkV b = 0) (hl : (allV a b).length ≤ 8) : chkV (allV a b) = 0 := by
  obtain ⟨h1, h2, h3, h4⟩ := chkV_zero.1 ha
  obtain ⟨k1, k2, k3, k4⟩ := chkV_zero.1 hb
  refine chkV_zero.2 ⟨?_, hl, fun v hv => ?_, asc_allV h4⟩
  · have := (allV_len b a).1; omega
  · rcases mem_allV.1 hv with h | h
    · exact h3 v h
    · exact k3 v h
theorem two_good {a b : List Vx} (ha : chkV a = 0) (hb : chkV b = 0) : twoV a b = 0 := by unfold twoV; rw [if_neg (by simp [ha]), hb]
theorem union_good {a b : List Vx} (ha : chkV a = 0) (hb : chkV b = 0) (hl : (allV a b).length ≤ 8) : unionV a b = (allV a b, 0) := by
  unfold unionV; rw [if_neg (by simp [two_good ha hb]), if_neg (by omega)]
theorem union_many {a b : List Vx} (ha : chkV a = 0) (hb : chkV b = 0) (hl : 8 < (allV a b).length) : unionV a b = ([], 5) := by
  unfold unionV; rw [if_neg (by simp [two_good ha hb]), if_pos hl]
theorem meet_good {a b : List Vx} (ha : chkV a = 0) (hb : chkV b = 0) : meetV a b = (sharedV a b true, 0) := by unfold meetV; rw [if_neg (by simp [two_good ha hb])]
theorem without_good {a b : List Vx} (ha : chkV a = 0) (hb : chkV b = 0) : withoutV a b = (sharedV a b false, 0) := by unfold withoutV; rw [if_neg (by simp [two_good ha hb])]
theorem asc_nodup {a : List Vx} (h : Asc a) : a.Nodup := List.Pairwise.imp (fun {x y} hxy e => by
  subst e
  have := cmpV_eq.2 (rfl : x = x)
  omega) h
theorem ne_nil {s : List Vx} (h : 0 < s.length) : s ≠ [] := fun e => by subst e; simp at h
/-- the union of the shares -/
def rightV (a b c : List Vx) : List Vx := if 0 < (sharedV a b true).length then (if 0 < (sharedV a c true).length then allV (sharedV a b true) (sharedV a c true) else sharedV a b true) else if 0 < (sharedV a c true).length then sharedV a c true else sharedV a b true
theorem nil_mem {s : List Vx} (h : ¬ 0 < s.length) {x : Vx} : x ∉ s := by
  have : s = [] := List.eq_nil_of_length_eq_zero (by omega)
  simp [this]
theorem left_right {a b c : List Vx} (ha : Asc a) : sharedV a (allV b c) true = rightV a b c := by
  have hab : Asc (sharedV a b true) := asc_shared ha
  have hac : Asc (sharedV a c true) := asc_shared ha
  unfold rightV
  have key : ∀ x, x ∈ sharedV a (allV b c) true ↔ x ∈ sharedV a b true ∨ x ∈ sharedV a c true := fun x => by
    simp only [mem_shared, decide_eq_true_eq, mem_allV]
    constructor
    · rintro ⟨h1, h2 | h2⟩
      · exact .inl ⟨h1, h2⟩
      · exact .inr ⟨h1, h2⟩
    · rintro (⟨h1, h2⟩ | ⟨h1, h2⟩)
      · exact ⟨h1, .inl h2⟩
      · exact ⟨h1, .inr h2⟩
  split
  · split
    · exact asc_ext (asc_shared ha) (asc_allV hab) fun x => by rw [key, mem_allV]
    · rename_i h
      exact asc_ext (asc_shared ha) hab fun x => by rw [key]; simp [nil_mem h]
  · rename_i h
    split
    · exact asc_ext (asc_shared ha) hac fun x => by rw [key]; simp [nil_mem h]
    · rename_i h'
      exact asc_ext (asc_shared ha) hab fun x => by rw [key]; simp [nil_mem h, nil_mem h']
theorem allV_new : ∀ (b a : List Vx), b.Nodup → (allV a b).length = a.length + (b.filter fun x => !decide (x ∈ a)).length
  | [], a, _ => by simp [allV]
  | v :: b, a, h => by
    obtain ⟨h1, h2⟩ := List.nodup_cons.1 h
    have e : allV a (v :: b) = allV (putV a v) b := rfl
    rw [e, allV_new b (putV a v) h2]
    have e2 : (b.filter fun x => !decide (x ∈ putV a v)) = b.filter fun x => !decide (x ∈ a) := List.filter_congr fun x hx => by
      have hxv : x ≠ v := fun e => h1 (e ▸ hx)
      have : x ∈ putV a v ↔ x ∈ a := by rw [mem_putV]; simp [hxv]
      simp [this]
    rw [e2]
    by_cases hv : v ∈ a
    · have e3 : putV a v = a := by unfold putV; rw [if_pos hv]
      rw [e3]
      simp [hv]
    · have e3 : (putV a v).length = a.length + 1 := by unfold putV; rw [if_neg hv, insV_len]
      rw [e3, List.filter_cons_of_pos (by simp [hv])]
      simp only [List.length_cons]; omega
theorem shared_len (a b : List Vx) : (sharedV a b false).length + (sharedV a b true).length = a.length := by
  unfold sharedV
  induction a with
  | nil => rfl
  | cons x a ih =>
    by_cases h : x ∈ b
    · rw [List.filter_cons_of_neg (by simp [h]), List.filter_cons_of_pos (by simp [h])]; simp only [List.length_cons]; omega
    · rw [List.filter_cons_of_pos (by simp [h]), List.filter_cons_of_neg (by simp [h])]; simp only [List.length_cons]; omega
theorem parts_len {a b : List Vx} (hb : Asc b) : (sharedV a b false).length + (sharedV a b true).length + (sharedV b a false).length = (allV a b).length := by
  rw [shared_len, allV_new b a (asc_nodup hb)]
  congr 2
  unfold sharedV
  exact List.filter_congr fun x _ => by simp
/-- how many of some lists have x -/
def cntV (x : Vx) (l : List (List Vx)) : Nat := l.countP fun s => decide (x ∈ s)
theorem cnt_parts {a b : List Vx} {x : Vx} (h : x ∈ allV a b) : cntV x [sharedV a b false, sharedV a b true, sharedV b a false] = 1 := by
  unfold cntV
  simp only [List.countP_cons, List.countP_nil, mem_shared, decide_eq_false_iff_not, decide_eq_true_eq]
  rcases mem_allV.1 h with h | h
  · by_cases hb : x ∈ b
    · simp [h, hb]
    · simp [h, hb]
  · by_cases ha : x ∈ a
    · simp [h, ha]
    · simp [h, ha]
theorem join_none {a b : List Vx} (ha : chkV a = 0) (hb : chkV b = 0) (hl : (allV a b).length ≤ 8) (h0 : (sharedV a b true).length = 0) : joinV a b = (allV a b, 0) := by
  unfold joinV; rw [if_neg (by simp [two_good ha hb]), if_neg (by omega), union_good ha hb hl]
theorem join_some {a b : List Vx} (ha : chkV a = 0) (hb : chkV b = 0) (h0 : 0 < (sharedV a b true).length) : joinV a b = ([], 7) := by
  unfold joinV; rw [if_neg (by simp [two_good ha hb]), if_pos h0]
theorem allV_sub {a s t : List Vx} (ha : Asc a) (hs : ∀ x ∈ s, x ∈ a) (ht : ∀ x ∈ t, x ∈ a) (has : Asc s) : (allV s t).Sublist a := by
  have e : allV s t = a.filter fun x => decide (x ∈ allV s t) := asc_ext (asc_allV has) (List.Pairwise.sublist List.filter_sublist ha) fun x => by
    rw [List.mem_filter, decide_eq_true_eq]
    constructor
    · intro h
      exact ⟨(mem_allV.1 h).elim (hs x) (ht x), h⟩
    · exact fun h => h.2
  rw [e]; exact List.filter_sublist
end Go.Proofs.Ytjojmdngogineaa
