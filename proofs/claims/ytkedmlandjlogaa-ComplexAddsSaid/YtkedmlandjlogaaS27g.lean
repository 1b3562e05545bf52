/-
  The plain laws of well-formed complexes: what is a simplex of a union and of an intersection, how many there are; a complex is that of its simplices.
-/
import Derived.Test.YtkedmlandjlogaaJ39
namespace Go.Proofs.Ytkedmlandjlogaa
theorem inside_trans {a b c : List Vx} (h : insideV a b = true) (k : insideV b c = true) : insideV a c = true := by
  unfold insideV at *
  rw [List.all_eq_true] at *
  intro x hx
  exact k x (of_decide_eq_true (h x hx))
theorem inside_self (a : List Vx) : insideV a a = true := by
  unfold insideV
  rw [List.all_eq_true]
  intro x hx
  exact decide_eq_true hx
theorem top_over {l : Cx} (h : ∀ s ∈ l, 0 < s.length ∧ s.length ≤ 8) : ∀ (n : Nat) (s : List Vx), s ∈ l → 8 - s.length ≤ n → ∃ f ∈ maxC l, insideV s f = true
  | n, s, hs, hn => by
    by_cases hc : coveredC l s = true
    · obtain ⟨x, hx, h1, h2⟩ := coveredC_iff.1 hc
      have h3 := (h x hx).2
      match n with
      | 0 => omega
      | n + 1 =>
        obtain ⟨f, hf, h4⟩ := top_over h n x hx (by omega)
        exact ⟨f, hf, inside_trans h2 h4⟩
    · refine ⟨s, maxC_mem.2 ⟨hs, ?_⟩, inside_self s⟩
      unfold topC
      rw [Bool.and_eq_true]
      exact ⟨decide_eq_true (h s hs).1, by simpa using hc⟩
theorem hasC_iff {l : Cx} {s : List Vx} : hasC' l s = true ↔ ∃ f ∈ l, insideV s f = true := by unfold hasC'; rw [List.any_eq_true]
theorem bool_iff {a b : Bool} (h : a = true ↔ b = true) : a = b := by cases a <;> cases b <;> simp_all
theorem chk_len {s : List Vx} (h : chkV s = 0) : 0 < s.length ∧ s.length ≤ 8 := by
  obtain ⟨h1, h2, _⟩ := chkV_zero.1 h
  exact ⟨by omega, h2⟩
theorem max_has {l : Cx} (hg : ∀ s ∈ l, chkV s = 0) (s : List Vx) : hasC' (maxC l) s = hasC' l s := by
  apply bool_iff
  rw [hasC_iff, hasC_iff]
  constructor
  · rintro ⟨f, hf, h⟩; exact ⟨f, (maxC_mem.1 hf).1, h⟩
  · rintro ⟨f, hf, h⟩
    obtain ⟨g, hg', h2⟩ := top_over (fun s hs => chk_len (hg s hs)) 8 f hf (by omega)
    exact ⟨g, hg', inside_trans h h2⟩
theorem meet_mem {a b : Cx} {x : List Vx} : x ∈ meetC27 a b ↔ ∃ f ∈ a, ∃ g ∈ b, x = g.filter (fun v => decide (v ∈ f)) ∧ 0 < x.length := by
  unfold meetC27 eachC
  rw [List.mem_flatten]
  constructor
  · rintro ⟨l, hl, hx⟩
    obtain ⟨f, hf, rfl⟩ := List.mem_map.1 hl
    obtain ⟨h1, h2⟩ := List.mem_filter.1 hx
    obtain ⟨g, hg, rfl⟩ := List.mem_map.1 h1
    exact ⟨f, hf, g, hg, rfl, of_decide_eq_true h2⟩
  · rintro ⟨f, hf, g, hg, rfl, h⟩
    exact ⟨_, List.mem_map.2 ⟨f, hf, rfl⟩, List.mem_filter.2 ⟨List.mem_map.2 ⟨g, hg, rfl⟩, decide_eq_true h⟩⟩
theorem inside_mem {a b : List Vx} : insideV a b = true ↔ ∀ x ∈ a, x ∈ b := by
  unfold insideV
  rw [List.all_eq_true]
  exact ⟨fun h x hx => of_decide_eq_true (h x hx), fun h x hx => decide_eq_true (h x hx)⟩
theorem meet_has {a b : Cx} {s : List Vx} (hs : 0 < s.length) : hasC' (meetC27 a b) s = (hasC' a s && hasC' b s) := by
  apply bool_iff
  rw [Bool.and_eq_true, hasC_iff, hasC_iff, hasC_iff]
  constructor
  · rintro ⟨x, hx, h⟩
    obtain ⟨f, hf, g, hg, rfl, _⟩ := meet_mem.1 hx
    rw [inside_mem] at h
    exact ⟨⟨f, hf, inside_mem.2 fun v hv => of_decide_eq_true (List.mem_filter.1 (h v hv)).2⟩, g, hg, inside_mem.2 fun v hv => (List.mem_filter.1 (h v hv)).1⟩
  · rintro ⟨⟨f, hf, h1⟩, g, hg, h2⟩
    rw [inside_mem] at h1 h2
    have h3 : insideV s (g.filter fun v => decide (v ∈ f)) = true := inside_mem.2 fun v hv => List.mem_filter.2 ⟨h2 v hv, decide_eq_true (h1 v hv)⟩
    refine ⟨_, meet_mem.2 ⟨f, hf, g, hg, rfl, ?_⟩, h3⟩
    cases s with
    | nil => simp at hs
    | cons v s => exact List.length_pos_of_mem (inside_mem.1 h3 v (by simp))
/-- what is a simplex with k vertices -/
theorem all_iff {l : Cx} (hl : ∀ s ∈ l, Asc s) {k : Nat} {x : List Vx} : x ∈ allC l k ↔ Asc x ∧ x.length = k ∧ hasC' l x = true := by
  rw [allC_mem, hasC_iff]
  constructor
  · rintro ⟨f, hf, hx⟩
    obtain ⟨h1, h2⟩ := (subsV_mem _ _ _).1 hx
    have ha : Asc x := List.Pairwise.sublist h1 (hl f hf)
    exact ⟨ha, h2, f, hf, (sub_inside ha (hl f hf)).1 h1⟩
  · rintro ⟨ha, h2, f, hf, h⟩
    exact ⟨f, hf, (subsV_mem _ _ _).2 ⟨(sub_inside ha (hl f hf)).2 h, h2⟩⟩
theorem in_ex {a b u m : Cx} (ha : a.Nodup) (hb : b.Nodup) (hu : u.Nodup) (hm : m.Nodup) (h1 : ∀ x, x ∈ u ↔ x ∈ a ∨ x ∈ b) (h2 : ∀ x, x ∈ m ↔ x ∈ a ∧ x ∈ b) : u.length + m.length = a.length + b.length := by
  have e1 : u.length = (a ++ b.filter fun x => !decide (x ∈ a)).length := by
    have hn : (a ++ b.filter fun x => !decide (x ∈ a)).Nodup := by
      rw [List.nodup_append]
      refine ⟨ha, hb.filter _, fun x hx y hy hxy => ?_⟩
      subst hxy
      have := (List.mem_filter.1 hy).2
      simp [hx] at this
    apply Nat.le_antisymm
    · refine List.Nodup.length_le_of_subset hu fun x hx => ?_
      rw [List.mem_append]
      by_cases h : x ∈ a
      · exact .inl h
      · refine .inr (List.mem_filter.2 ⟨((h1 x).1 hx).resolve_left h, by simp [h]⟩)
    · refine List.Nodup.length_le_of_subset hn fun x hx => (h1 x).2 ?_
      rcases List.mem_append.1 hx with h | h
      · exact .inl h
      · exact .inr (List.mem_filter.1 h).1
  have e2 : m.length = (b.filter fun x => decide (x ∈ a)).length := by
    apply Nat.le_antisymm
    · exact List.Nodup.length_le_of_subset hm fun x hx => List.mem_filter.2 ⟨((h2 x).1 hx).2, decide_eq_true ((h2 x).1 hx).1⟩
    · exact List.Nodup.length_le_of_subset (hb.filter _) fun x hx => (h2 x).2 ⟨of_decide_eq_true (List.mem_filter.1 hx).2, (List.mem_filter.1 hx).1⟩
  have e3 : ∀ l : Cx, (l.filter fun x => decide (x ∈ a)).length + (l.filter fun x => !decide (x ∈ a)).length = l.length := by
    intro l
    induction l with
    | nil => rfl
    | cons y l ih =>
      by_cases h : y ∈ a
      · simp only [List.filter_cons, h, decide_true, Bool.not_true, if_true, Bool.false_eq_true, if_false, List.length_cons]; omega
      · simp only [List.filter_cons, h, decide_false, Bool.not_false, if_true, Bool.false_eq_true, if_false, List.length_cons]; omega
  rw [e1, e2, List.length_append]
  have := e3 b
  omega
theorem all_few {l : Cx} {k B : Nat} (h : ∀ s ∈ l, (subsV k s).length ≤ B) : (allC l k).length ≤ B * l.length := by
  have h1 : (allC l k).length ≤ (fcsC l k).length := List.Nodup.length_le_of_subset (allC_asc l _).nodup fun x hx => fcsC_mem.2 hx
  have h2 : ∀ l : Cx, (∀ s ∈ l, (subsV k s).length ≤ B) → (fcsC l k).length ≤ B * l.length := by
    intro l
    induction l with
    | nil => intro _; simp [fcsC]
    | cons s l ih =>
      intro h
      have h3 := ih fun x hx => h x (List.mem_cons_of_mem _ hx)
      have h4 := h s (by simp)
      have h5 : (fcsC (s :: l) k).length = (subsV k s).length + (fcsC l k).length := by unfold fcsC; simp
      rw [h5, List.length_cons, Nat.mul_add, Nat.mul_one]
      omega
  exact Nat.le_trans h1 (h2 l h)
theorem choose_5 : ∀ n ≤ 5, ∀ k ≤ 5, chooseN n k ≤ 10 := by decide
/-- what the laws take for good -/
structure Gd (l : Cx) : Prop where
  good : GoodX l
  few : l.length ≤ 30
  five : ∀ s ∈ l, s.length ≤ 5
theorem Gd.all {l : Cx} (h : Gd l) (k : Nat) : (allC l k).length ≤ 300 := by
  have := all_few (l := l) (k := k) (B := 10) fun s hs => by
    have h5 := h.five s hs
    by_cases hk : k ≤ 5
    · rw [subs_choose]; exact choose_5 _ h5 _ hk
    · rw [subsV_short k s (by omega)]; simp
  have := h.few
  omega
theorem Gd.chk {l : Cx} (h : Gd l) : ∀ s ∈ l, chkV s = 0 := h.good.2.2.1
theorem Gd.zero {l : Cx} (h : Gd l) : chkC l = 0 := goodX_iff.2 h.good
theorem Gd.none {l : Cx} (h : Gd l) {k : Nat} (hk : 5 < k) : allC l k = [] := by
  apply List.eq_nil_iff_forall_not_mem.2
  intro x hx
  obtain ⟨f, hf, hx⟩ := allC_mem.1 hx
  rw [subsV_short k f (by have := h.five f hf; omega)] at hx
  simp at hx
/-- the simplices with at most k vertices, in the order of the numbers of their vertices -/
def upC (l : Cx) : Nat → Cx
  | 0 => []
  | k + 1 => upC l k ++ allC l (k + 1)
theorem upC_mem {l : Cx} {x : List Vx} : ∀ {k : Nat}, x ∈ upC l k ↔ ∃ j, 1 ≤ j ∧ j ≤ k ∧ x ∈ allC l j
  | 0 => by
    constructor
    · intro h; simp [upC] at h
    · rintro ⟨j, h1, h2, _⟩; omega
  | k + 1 => by
    unfold upC
    rw [List.mem_append, upC_mem]
    constructor
    · rintro (⟨j, h1, h2, h3⟩ | h)
      · exact ⟨j, h1, by omega, h3⟩
      · exact ⟨k + 1, by omega, Nat.le_refl _, h⟩
    · rintro ⟨j, h1, h2, h3⟩
      by_cases hj : j = k + 1
      · subst hj; exact .inr h3
      · exact .inl ⟨j, h1, by omega, h3⟩
theorem Gd.up {l : Cx} (h : Gd l) : ∀ k, (upC l k).length ≤ 300 * k
  | 0 => by simp [upC]
  | k + 1 => by
    have h1 := h.up k
    have h2 := h.all (k + 1)
    unfold upC
    rw [List.length_append]
    omega
theorem Gd.face {l : Cx} (h : Gd l) {k : Nat} {s : List Vx} (hs : s ∈ upC l k) : chkV s = 0 ∧ hasC' l s = true := by
  obtain ⟨j, h1, _, h3⟩ := upC_mem.1 hs
  obtain ⟨f, hf, hx⟩ := allC_mem.1 h3
  exact ⟨(face_good (h.chk f hf) h1 hx).1, ((all_iff h.good.asc).1 h3).2.2⟩
/-! union and intersection -/
theorem chk_app {a b : Cx} (ha : Gd a) (hb : Gd b) : ∀ s ∈ a ++ b, chkV s = 0 := fun s hs => by
  rcases List.mem_append.1 hs with h | h
  · exact ha.chk s h
  · exact hb.chk s h
theorem chk_meet {a b : Cx} (hb : Gd b) : ∀ s ∈ meetC27 a b, chkV s = 0 := meetC_good hb.chk
theorem len_app {a b : Cx} (ha : Gd a) (hb : Gd b) : (maxC (a ++ b)).length ≤ 60 := by
  have := max_len (a ++ b)
  rw [List.length_append] at this
  have := ha.few
  have := hb.few
  omega
theorem len_meet {a b : Cx} (ha : Gd a) (hb : Gd b) : (maxC (meetC27 a b)).length ≤ 900 := by
  have h1 := max_len (meetC27 a b)
  have h2 := meetC_len a b a.length (Nat.le_refl _)
  rw [List.take_length] at h2
  have h3 : a.length * b.length ≤ 30 * 30 := Nat.mul_le_mul ha.few hb.few
  omega
theorem good_app {a b : Cx} (ha : Gd a) (hb : Gd b) : GoodX (maxC (a ++ b)) := good_max (fun s hs _ => chk_app ha hb s hs) (Nat.le_trans (len_app ha hb) (by decide))
theorem good_meet {a b : Cx} (ha : Gd a) (hb : Gd b) : GoodX (maxC (meetC27 a b)) := good_max (fun s hs _ => chk_meet hb s hs) (Nat.le_trans (len_meet ha hb) (by decide))
theorem two_zero {a b : Cx} (ha : Gd a) (hb : Gd b) : twoC a b = 0 := by unfold twoC; rw [ha.zero, if_neg (by omega)]; exact hb.zero
theorem uni_is {a b : Cx} (ha : Gd a) (hb : Gd b) : uniC a b = (maxC (a ++ b), 0) := by
  have := len_app ha hb
  unfold uniC limC
  rw [two_zero ha hb, if_neg (by omega), if_neg (by omega)]
theorem meet_is {a b : Cx} (ha : Gd a) (hb : Gd b) : meetP a b = (maxC (meetC27 a b), 0) := by
  have := len_meet ha hb
  have h3 : a.length * b.length ≤ 30 * 30 := Nat.mul_le_mul ha.few hb.few
  unfold meetP limC
  rw [two_zero ha hb, if_neg (by omega), if_neg (by omega), if_neg (by omega)]
theorem has_app {a b : Cx} (ha : Gd a) (hb : Gd b) (s : List Vx) : hasC' (maxC (a ++ b)) s = (hasC' a s || hasC' b s) := by
  rw [max_has (chk_app ha hb)]; unfold hasC'; rw [List.any_append]
theorem has_meet {a b : Cx} (hb : Gd b) {s : List Vx} (hs : 0 < s.length) : hasC' (maxC (meetC27 a b)) s = (hasC' a s && hasC' b s) := by
  rw [max_has (chk_meet hb), meet_has hs]
theorem cont_is {l : Cx} {s : List Vx} (h : GoodX l) (hs : chkV s = 0) : contC l s = (hasC' l s, 0) := by
  unfold contC plC
  rw [goodX_iff.2 h, if_neg (by omega : ¬ (0 : Int) ≠ 0), hs, if_neg (by omega)]
theorem all_adds {a b : Cx} (ha : Gd a) (hb : Gd b) (k : Nat) : (allC (maxC (a ++ b)) (k + 1)).length + (allC (maxC (meetC27 a b)) (k + 1)).length = (allC a (k + 1)).length + (allC b (k + 1)).length := by
  refine in_ex (allC_asc _ _).nodup (allC_asc _ _).nodup (allC_asc _ _).nodup (allC_asc _ _).nodup (fun x => ?_) fun x => ?_
  · rw [all_iff (good_app ha hb).asc, all_iff ha.good.asc, all_iff hb.good.asc, has_app ha hb, Bool.or_eq_true]
    constructor
    · rintro ⟨h1, h2, h3 | h3⟩
      · exact .inl ⟨h1, h2, h3⟩
      · exact .inr ⟨h1, h2, h3⟩
    · rintro (⟨h1, h2, h3⟩ | ⟨h1, h2, h3⟩)
      · exact ⟨h1, h2, .inl h3⟩
      · exact ⟨h1, h2, .inr h3⟩
  · rw [all_iff (good_meet ha hb).asc, all_iff ha.good.asc, all_iff hb.good.asc]
    constructor
    · rintro ⟨h1, h2, h3⟩
      rw [has_meet hb (by omega), Bool.and_eq_true] at h3
      exact ⟨⟨h1, h2, h3.1⟩, h1, h2, h3.2⟩
    · rintro ⟨⟨h1, h2, h3⟩, _, _, h4⟩
      exact ⟨h1, h2, by rw [has_meet hb (by omega), h3, h4]; rfl⟩
theorem eul_is {l : Cx} (h : GoodX l) (hl : ∀ k, (allC l (k + 1)).length ≤ 4096) : eulC l = (eulS l 8, 0) := by
  unfold eulC
  rw [goodX_iff.2 h, if_neg (by omega : ¬ (0 : Int) ≠ 0), if_neg]
  intro hc
  rw [List.any_eq_true] at hc
  obtain ⟨k, _, h2⟩ := hc
  have := of_decide_eq_true h2
  have := hl k
  omega
theorem eulS_adds {a b u m : Cx} (h : ∀ k, (allC u (k + 1)).length + (allC m (k + 1)).length = (allC a (k + 1)).length + (allC b (k + 1)).length) : ∀ k, eulS u k = eulS a k + eulS b k - eulS m k
  | 0 => rfl
  | k + 1 => by
    have h1 := eulS_adds h k
    have h2 := h k
    unfold eulS
    split <;> omega
theorem Gd.eul {l : Cx} (h : Gd l) : eulC l = (eulS l 8, 0) := eul_is h.good fun k => Nat.le_trans (h.all _) (by decide)
theorem eul_app {a b : Cx} (ha : Gd a) (hb : Gd b) : eulC (maxC (a ++ b)) = (eulS (maxC (a ++ b)) 8, 0) := eul_is (good_app ha hb) fun k => by
  have h1 := all_adds ha hb k
  have h2 := ha.all (k + 1)
  have h3 := hb.all (k + 1)
  omega
theorem eul_meet {a b : Cx} (ha : Gd a) (hb : Gd b) : eulC (maxC (meetC27 a b)) = (eulS (maxC (meetC27 a b)) 8, 0) := eul_is (good_meet ha hb) fun k => by
  have h1 := all_adds ha hb k
  have h2 := ha.all (k + 1)
  have h3 := hb.all (k + 1)
  omega
theorem eul_adds {a b : Cx} (ha : Gd a) (hb : Gd b) : eulS (maxC (a ++ b)) 8 = eulS a 8 + eulS b 8 - eulS (maxC (meetC27 a b)) 8 := eulS_adds (all_adds ha hb) 8
theorem app_swap (a b : Cx) : maxC (b ++ a) = maxC (a ++ b) := max_ext fun x _ => by rw [List.mem_append, List.mem_append, or_comm]
theorem filt_swap {f g : List Vx} (hf : Asc f) (hg : Asc g) : f.filter (fun v => decide (v ∈ g)) = g.filter (fun v => decide (v ∈ f)) :=
  asc_ext (List.Pairwise.filter _ hf) (List.Pairwise.filter _ hg) fun x => by simp [List.mem_filter, and_comm]
theorem meet_swap {a b : Cx} (ha : Gd a) (hb : Gd b) : maxC (meetC27 b a) = maxC (meetC27 a b) := max_ext fun x _ => by
  rw [meet_mem, meet_mem]
  constructor
  · rintro ⟨f, hf, g, hg, rfl, h⟩
    exact ⟨g, hg, f, hf, filt_swap (ha.good.asc g hg) (hb.good.asc f hf), h⟩
  · rintro ⟨f, hf, g, hg, rfl, h⟩
    exact ⟨g, hg, f, hf, filt_swap (hb.good.asc g hg) (ha.good.asc f hf), h⟩
end Go.Proofs.Ytkedmlandjlogaa
