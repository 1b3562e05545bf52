/-
  Union-find over a list of pairs: what the loop to the root computes, and that two are joined exactly if they are connected.
-/
import Derived.Test.YtkedmlandjlogaaJ39
namespace Go.Proofs.Ytkedmlandjlogaa
set_option linter.unusedSectionVars false
section
variable {V : Type} [DecidableEq V]
/-- the root, pair by pair in the order in which they came -/
def repM (m : List (V × V)) (v : V) : V := m.foldl (fun x p => if x = p.1 then p.2 else x) v
/-- how far the root lies -/
def depM (m : List (V × V)) (v : V) : Nat := (m.foldl (fun (x : V × Nat) p => if x.1 = p.1 then (p.2, x.2 + 1) else x) (v, 0)).2
theorem rep_dep (m : List (V × V)) (v : V) (n : Nat) : (m.foldl (fun (x : V × Nat) p => if x.1 = p.1 then (p.2, x.2 + 1) else x) (v, n)).1 = repM m v := by
  induction m generalizing v n with
  | nil => rfl
  | cons p m ih =>
    unfold repM at *
    rw [List.foldl_cons, List.foldl_cons]
    by_cases h : v = p.1
    · rw [if_pos h, if_pos h]; exact ih _ _
    · rw [if_neg h, if_neg h]; exact ih _ _
theorem rep_snoc (m : List (V × V)) (a b v : V) : repM (m ++ [(a, b)]) v = if repM m v = a then b else repM m v := by
  unfold repM; rw [List.foldl_append]; rfl
theorem dep_snoc (m : List (V × V)) (a b v : V) : depM (m ++ [(a, b)]) v = if repM m v = a then depM m v + 1 else depM m v := by
  have h := rep_dep m v 0
  unfold depM
  rw [List.foldl_append]
  simp only [List.foldl_cons, List.foldl_nil]
  rw [h]
  by_cases h1 : repM m v = a
  · rw [if_pos h1, if_pos h1]
  · rw [if_neg h1, if_neg h1]
/-- maps that come of joining roots -/
inductive OkM : List (V × V) → Prop
  | nil : OkM []
  | snoc {m : List (V × V)} {a b : V} (h : OkM m) (ha : a ∉ m.map (·.1)) (hb : b ∉ m.map (·.1)) (hne : a ≠ b) : OkM (m ++ [(a, b)])
theorem look_snoc {m : List (V × V)} {a b v : V} (ha : a ∉ m.map (·.1)) : lookM (m ++ [(a, b)]) v = if v = a then some b else lookM m v := by
  unfold lookM
  rw [List.find?_append]
  by_cases h : v = a
  · subst h
    rw [if_pos rfl]
    have : m.find? (fun p => decide (p.1 = v)) = none := by
      rw [List.find?_eq_none]
      intro p hp hc
      exact ha (List.mem_map.2 ⟨p, hp, of_decide_eq_true hc⟩)
    rw [this]
    simp
  · rw [if_neg h]
    cases h1 : m.find? (fun p => decide (p.1 = v)) with
    | none =>
      have : decide (a = v) = false := decide_eq_false fun hc => h hc.symm
      simp [this]
    | some p => simp
theorem look_none {m : List (V × V)} {v : V} : lookM m v = none ↔ v ∉ m.map (·.1) := by
  unfold lookM
  rw [Option.map_eq_none_iff, List.find?_eq_none]
  constructor
  · intro h hc
    obtain ⟨p, hp, h1⟩ := List.mem_map.1 hc
    exact h p hp (decide_eq_true h1)
  · intro h p hp hc
    exact h (List.mem_map.2 ⟨p, hp, of_decide_eq_true hc⟩)
theorem rep_root {m : List (V × V)} (h : OkM m) {v : V} (hv : v ∉ m.map (·.1)) : repM m v = v ∧ depM m v = 0 := by
  induction h with
  | nil => exact ⟨rfl, rfl⟩
  | snoc h ha hb hne ih =>
    rename_i m a b
    rw [List.map_append, List.mem_append, not_or] at hv
    obtain ⟨h1, h2⟩ := ih hv.1
    have h3 : v ≠ a := by simpa using hv.2
    rw [rep_snoc, dep_snoc, h1, h2, if_neg h3, if_neg h3]
    exact ⟨rfl, rfl⟩
theorem rep_step {m : List (V × V)} (h : OkM m) {v u : V} (hv : lookM m v = some u) : repM m v = repM m u ∧ depM m u < depM m v := by
  induction h with
  | nil => simp [lookM] at hv
  | snoc h ha hb hne ih =>
    rename_i m a b
    rw [look_snoc ha] at hv
    by_cases h1 : v = a
    · rw [if_pos h1] at hv
      subst h1
      cases hv
      obtain ⟨h2, h3⟩ := rep_root h ha
      obtain ⟨h4, h5⟩ := rep_root h hb
      rw [rep_snoc, rep_snoc, dep_snoc, dep_snoc, h2, h3, h4, h5, if_pos rfl, if_neg (Ne.symm hne), if_pos rfl, if_neg (Ne.symm hne)]
      exact ⟨rfl, by omega⟩
    · rw [if_neg h1] at hv
      obtain ⟨h2, h3⟩ := ih hv
      rw [rep_snoc, rep_snoc, dep_snoc, dep_snoc, h2]
      refine ⟨rfl, ?_⟩
      by_cases h4 : repM m u = a
      · rw [if_pos h4, if_pos h4]; omega
      · rw [if_neg h4, if_neg h4]; exact h3
/-- a root has no pair -/
theorem rep_not {m : List (V × V)} (h : OkM m) (v : V) : repM m v ∉ m.map (·.1) := by
  induction h with
  | nil => simp
  | snoc h ha hb hne ih =>
    rename_i m a b
    rw [rep_snoc, List.map_append, List.mem_append]
    by_cases h1 : repM m v = a
    · rw [if_pos h1]; simp only [List.map_cons, List.map_nil, List.mem_singleton]
      exact fun hc => hc.elim hb fun hc => hne hc.symm
    · rw [if_neg h1]; simp only [List.map_cons, List.map_nil, List.mem_singleton]
      exact fun hc => hc.elim ih h1
/-- two vertices are joined -/
def joinM (m : List (V × V)) (u v : V) : List (V × V) := if repM m u = repM m v then m else m ++ [(repM m u, repM m v)]
theorem join_ok {m : List (V × V)} (h : OkM m) (u v : V) : OkM (joinM m u v) := by
  unfold joinM
  by_cases h1 : repM m u = repM m v
  · rw [if_pos h1]; exact h
  · rw [if_neg h1]; exact OkM.snoc h (rep_not h u) (rep_not h v) h1
theorem join_rep (m : List (V × V)) (u v x : V) : repM (joinM m u v) x = if repM m x = repM m u then repM m v else repM m x := by
  unfold joinM
  by_cases h1 : repM m u = repM m v
  · rw [if_pos h1]
    by_cases h2 : repM m x = repM m u
    · rw [if_pos h2, h2, h1]
    · rw [if_neg h2]
  · rw [if_neg h1, rep_snoc]
/-- the joins of a list of pairs -/
def joinsM (m : List (V × V)) (es : List (V × V)) : List (V × V) := es.foldl (fun m e => joinM m e.1 e.2) m
theorem joins_ok {es : List (V × V)} : ∀ {m : List (V × V)}, OkM m → OkM (joinsM m es) := by
  induction es with
  | nil => intro m h; exact h
  | cons e es ih => intro m h; exact ih (join_ok h e.1 e.2)
/-- connected by a list of pairs -/
inductive Conn (es : List (V × V)) : V → V → Prop
  | refl (u : V) : Conn es u u
  | step {u v w : V} (h : Conn es u v) (e : (v, w) ∈ es ∨ (w, v) ∈ es) : Conn es u w
theorem Conn.trans {es : List (V × V)} {u v w : V} (h : Conn es u v) (k : Conn es v w) : Conn es u w := by
  induction k with
  | refl => exact h
  | step _ e ih => exact ih.step e
theorem Conn.symm {es : List (V × V)} {u v : V} (h : Conn es u v) : Conn es v u := by
  induction h with
  | refl => exact .refl _
  | step _ e ih => exact (Conn.step (.refl _) e.symm).trans ih
theorem Conn.mono {es es' : List (V × V)} (hs : ∀ e ∈ es, e ∈ es') {u v : V} (h : Conn es u v) : Conn es' u v := by
  induction h with
  | refl => exact .refl _
  | step _ e ih => exact ih.step (e.elim (fun e => .inl (hs _ e)) fun e => .inr (hs _ e))
theorem joins_snoc (es : List (V × V)) (e : V × V) : joinsM [] (es ++ [e]) = joinM (joinsM [] es) e.1 e.2 := by unfold joinsM; rw [List.foldl_append]; rfl
theorem take_ind {α : Type} {P : List α → Prop} (h0 : P []) (h1 : ∀ l a, P l → P (l ++ [a])) : ∀ l, P l := fun l => by
  have : P l.reverse.reverse := by
    induction l.reverse with
    | nil => exact h0
    | cons a l ih => rw [List.reverse_cons]; exact h1 _ _ ih
  rwa [List.reverse_reverse] at this
/-- what union-find computes -/
theorem conn_iff (es : List (V × V)) : ∀ u v, repM (joinsM [] es) u = repM (joinsM [] es) v ↔ Conn es u v := by
  refine take_ind (P := fun es => ∀ u v, repM (joinsM [] es) u = repM (joinsM [] es) v ↔ Conn es u v) ?_ ?_ es
  · intro u v
    constructor
    · intro h
      have : u = v := h
      subst this
      exact .refl _
    · intro h
      induction h with
      | refl => rfl
      | step _ e _ => simp at e
  · intro es e ih u v
    have hm : ∀ x ∈ es, x ∈ es ++ [e] := fun x hx => List.mem_append_left _ hx
    have h1 : Conn (es ++ [e]) e.1 e.2 := .step (.refl _) (.inl (by simp))
    rw [joins_snoc, join_rep, join_rep]
    constructor
    · intro h
      by_cases a1 : repM (joinsM [] es) u = repM (joinsM [] es) e.1
      · have c1 := ((ih _ _).1 a1).mono hm
        by_cases a2 : repM (joinsM [] es) v = repM (joinsM [] es) e.1
        · exact c1.trans (((ih _ _).1 a2).mono hm).symm
        · rw [if_pos a1, if_neg a2] at h
          exact (c1.trans h1).trans (((ih _ _).1 h).mono hm)
      · by_cases a2 : repM (joinsM [] es) v = repM (joinsM [] es) e.1
        · rw [if_neg a1, if_pos a2] at h
          exact ((((ih _ _).1 h).mono hm).trans h1.symm).trans (((ih _ _).1 a2).mono hm).symm
        · rw [if_neg a1, if_neg a2] at h
          exact ((ih _ _).1 h).mono hm
    · intro h
      induction h with
      | refl => rfl
      | step _ k ihk =>
        rename_i x y _
        rw [ihk]
        have hk : ∀ x y : V, (x, y) ∈ es ++ [e] → (if repM (joinsM [] es) x = repM (joinsM [] es) e.1 then repM (joinsM [] es) e.2 else repM (joinsM [] es) x) = if repM (joinsM [] es) y = repM (joinsM [] es) e.1 then repM (joinsM [] es) e.2 else repM (joinsM [] es) y := by
          intro x y hxy
          rcases List.mem_append.1 hxy with hxy | hxy
          · have := (ih x y).2 (.step (.refl _) (.inl hxy))
            rw [this]
          · have he : (x, y) = e := by simpa using hxy
            subst he
            rw [if_pos rfl]
            by_cases h3 : repM (joinsM [] es) y = repM (joinsM [] es) x
            · rw [if_pos h3]
            · rw [if_neg h3]
        rcases k with k | k
        · exact hk _ _ k
        · exact (hk _ _ k).symm
end
end Go.Proofs.Ytkedmlandjlogaa
