/-
  Part 35 of the texts that the claims of this seat lean on: walks of the program's functions by contracts over symbolic frames, and plain laws of what they compute. No condition.
-/
import Derived.Test.YtkedmlandjlogaaGreatVa21
import Derived.Test.YtkedmlandjlogaaGreatVa22
import Derived.Test.YtkedmlandjlogaaGreatVa31
import Derived.Test.YtkedmlandjlogaaGreatVa33
set_option linter.unusedVariables false
set_option linter.unusedSimpArgs false
set_option linter.unusedSectionVars false
namespace Go.Proofs.YtkedmlandjlogaaGreat
set_option linter.unusedSectionVars false
section
variable {V : Type} [DecidableEq V]
def repM (m : List (V × V)) (v : V) : V := m.foldl (fun x p => if x = p.1 then p.2 else x) v
def depM (m : List (V × V)) (v : V) : Nat := (m.foldl (fun (x : V × Nat) p => if x.1 = p.1 then (p.2, x.2 + 1) else x) (v, 0)).2
theorem rep_dep (m : List (V × V)) (v : V) (n : Nat) : (m.foldl (fun (x : V × Nat) p => if x.1 = p.1 then (p.2, x.2 + 1) else x) (v, n)).1 = repM m v := by
  induction m generalizing v n with
  | nil => rfl
  | cons p m ih =>
    unfold repM at *
    rw [List.foldl_cons, List.foldl_cons]
    by_cases h : v = p.1
    · rw [if_pos h, if_pos h]; exact ih _ _
    · rw [if_neg h, if_neg h]; exact ih _ _
theorem rep_snoc (m : List (V × V)) (a b v : V) : repM (m ++ [(a, b)]) v = if repM m v = a then b else repM m v := by
  unfold repM; rw [List.foldl_append]; rfl
theorem dep_snoc (m : List (V × V)) (a b v : V) : depM (m ++ [(a, b)]) v = if repM m v = a then depM m v + 1 else depM m v := by
  have h := rep_dep m v 0
  unfold depM
  rw [List.foldl_append]
  simp only [List.foldl_cons, List.foldl_nil]
  rw [h]
  by_cases h1 : repM m v = a
  · rw [if_pos h1, if_pos h1]
  · rw [if_neg h1, if_neg h1]
inductive OkM : List (V × V) → Prop
  | nil : OkM []
  | snoc {m : List (V × V)} {a b : V} (h : OkM m) (ha : a ∉ m.map (·.1)) (hb : b ∉ m.map (·.1)) (hne : a ≠ b) : OkM (m ++ [(a, b)])
theorem look_snoc {m : List (V × V)} {a b v : V} (ha : a ∉ m.map (·.1)) : lookM (m ++ [(a, b)]) v = if v = a then some b else lookM m v := by
  unfold lookM
  rw [List.find?_append]
  by_cases h : v = a
  · subst h
    rw [if_pos rfl]
    have : m.find? (fun p => decide (p.1 = v)) = none := by
      rw [List.find?_eq_none]
      intro p hp hc
      exact ha (List.mem_map.2 ⟨p, hp, of_decide_eq_true hc⟩)
    rw [this]
    simp
  · rw [if_neg h]
    cases h1 : m.find? (fun p => decide (p.1 = v)) with
    | none =>
      have : decide (a = v) = false := decide_eq_false fun hc => h hc.symm
      simp [this]
    | some p => simp
theorem look_none {m : List (V × V)} {v : V} : lookM m v = none ↔ v ∉ m.map (·.1) := by
  unfold lookM
  rw [Option.map_eq_none_iff, List.find?_eq_none]
  constructor
  · intro h hc
    obtain ⟨p, hp, h1⟩ := List.mem_map.1 hc
    exact h p hp (decide_eq_true h1)
  · intro h p hp hc
    exact h (List.mem_map.2 ⟨p, hp, of_decide_eq_true hc⟩)
theorem rep_root {m : List (V × V)} (h : OkM m) {v : V} (hv : v ∉ m.map (·.1)) : repM m v = v ∧ depM m v = 0 := by
  induction h with
  | nil => exact ⟨rfl, rfl⟩
  | snoc h ha hb hne ih =>
    rename_i m a b
    rw [List.map_append, List.mem_append, not_or] at hv
    obtain ⟨h1, h2⟩ := ih hv.1
    have h3 : v ≠ a := by simpa using hv.2
    rw [rep_snoc, dep_snoc, h1, h2, if_neg h3, if_neg h3]
    exact ⟨rfl, rfl⟩
theorem rep_step {m : List (V × V)} (h : OkM m) {v u : V} (hv : lookM m v = some u) : repM m v = repM m u ∧ depM m u < depM m v := by
  induction h with
  | nil => simp [lookM] at hv
  | snoc h ha hb hne ih =>
    rename_i m a b
    rw [look_snoc ha] at hv
    by_cases h1 : v = a
    · rw [if_pos h1] at hv
      subst h1
      cases hv
      obtain ⟨h2, h3⟩ := rep_root h ha
      obtain ⟨h4, h5⟩ := rep_root h hb
      rw [rep_snoc, rep_snoc, dep_snoc, dep_snoc, h2, h3, h4, h5, if_pos rfl, if_neg (Ne.symm hne), if_pos rfl, if_neg (Ne.symm hne)]
      exact ⟨rfl, by omega⟩
    · rw [if_neg h1] at hv
      obtain ⟨h2, h3⟩ := ih hv
      rw [rep_snoc, rep_snoc, dep_snoc, dep_snoc, h2]
      refine ⟨rfl, ?_⟩
      by_cases h4 : repM m u = a
      · rw [if_pos h4, if_pos h4]; omega
      · rw [if_neg h4, if_neg h4]; exact h3
theorem rep_not {m : List (V × V)} (h : OkM m) (v : V) : repM m v ∉ m.map (·.1) := by
  induction h with
  | nil => simp
  | snoc h ha hb hne ih =>
    rename_i m a b
    rw [rep_snoc, List.map_append, List.mem_append]
    by_cases h1 : repM m v = a
    · rw [if_pos h1]; simp only [List.map_cons, List.map_nil, List.mem_singleton]
      exact fun hc => hc.elim hb fun hc => hne hc.symm
    · rw [if_neg h1]; simp only [List.map_cons, List.map_nil, List.mem_singleton]
      exact fun hc => hc.elim ih h1
def joinM (m : List (V × V)) (u v : V) : List (V × V) := if repM m u = repM m v then m else m ++ [(repM m u, repM m v)]
theorem join_ok {m : List (V × V)} (h : OkM m) (u v : V) : OkM (joinM m u v) := by
  unfold joinM
  by_cases h1 : repM m u = repM m v
  · rw [if_pos h1]; exact h
  · rw [if_neg h1]; exact OkM.snoc h (rep_not h u) (rep_not h v) h1
theorem join_rep (m : List (V × V)) (u v x : V) : repM (joinM m u v) x = if repM m x = repM m u then repM m v else repM m x := by
  unfold joinM
  by_cases h1 : repM m u = repM m v
  · rw [if_pos h1]
    by_cases h2 : repM m x = repM m u
    · rw [if_pos h2, h2, h1]
    · rw [if_neg h2]
  · rw [if_neg h1, rep_snoc]
def joinsM (m : List (V × V)) (es : List (V × V)) : List (V × V) := es.foldl (fun m e => joinM m e.1 e.2) m
theorem joins_ok {es : List (V × V)} : ∀ {m : List (V × V)}, OkM m → OkM (joinsM m es) := by
  induction es with
  | nil => intro m h; exact h
  | cons e es ih => intro m h; exact ih (join_ok h e.1 e.2)
inductive Conn (es : List (V × V)) : V → V → Prop
  | refl (u : V) : Conn es u u
  | step {u v w : V} (h : Conn es u v) (e : (v, w) ∈ es ∨ (w, v) ∈ es) : Conn es u w
theorem Conn.trans {es : List (V × V)} {u v w : V} (h : Conn es u v) (k : Conn es v w) : Conn es u w := by
  induction k with
  | refl => exact h
  | step _ e ih => exact ih.step e
theorem Conn.symm {es : List (V × V)} {u v : V} (h : Conn es u v) : Conn es v u := by
  induction h with
  | refl => exact .refl _
  | step _ e ih => exact (Conn.step (.refl _) e.symm).trans ih
theorem Conn.mono {es es' : List (V × V)} (hs : ∀ e ∈ es, e ∈ es') {u v : V} (h : Conn es u v) : Conn es' u v := by
  induction h with
  | refl => exact .refl _
  | step _ e ih => exact ih.step (e.elim (fun e => .inl (hs _ e)) fun e => .inr (hs _ e))
theorem joins_snoc (es : List (V × V)) (e : V × V) : joinsM [] (es ++ [e]) = joinM (joinsM [] es) e.1 e.2 := by unfold joinsM; rw [List.foldl_append]; rfl
theorem take_ind {α : Type} {P : List α → Prop} (h0 : P []) (h1 : ∀ l a, P l → P (l ++ [a])) : ∀ l, P l := fun l => by
  have : P l.reverse.reverse := by
    induction l.reverse with
    | nil => exact h0
    | cons a l ih => rw [List.reverse_cons]; exact h1 _ _ ih
  rwa [List.reverse_reverse] at this
theorem conn_iff (es : List (V × V)) : ∀ u v, repM (joinsM [] es) u = repM (joinsM [] es) v ↔ Conn es u v := by
  refine take_ind (P := fun es => ∀ u v, repM (joinsM [] es) u = repM (joinsM [] es) v ↔ Conn es u v) ?_ ?_ es
  · intro u v
    constructor
    · intro h
      have : u = v := h
      subst this
      exact .refl _
    · intro h
      induction h with
      | refl => rfl
      | step _ e _ => simp at e
  · intro es e ih u v
    have hm : ∀ x ∈ es, x ∈ es ++ [e] := fun x hx => List.mem_append_left _ hx
    have h1 : Conn (es ++ [e]) e.1 e.2 := .step (.refl _) (.inl (by simp))
    rw [joins_snoc, join_rep, join_rep]
    constructor
    · intro h
      by_cases a1 : repM (joinsM [] es) u = repM (joinsM [] es) e.1
      · have c1 := ((ih _ _).1 a1).mono hm
        by_cases a2 : repM (joinsM [] es) v = repM (joinsM [] es) e.1
        · exact c1.trans (((ih _ _).1 a2).mono hm).symm
        · rw [if_pos a1, if_neg a2] at h
          exact (c1.trans h1).trans (((ih _ _).1 h).mono hm)
      · by_cases a2 : repM (joinsM [] es) v = repM (joinsM [] es) e.1
        · rw [if_neg a1, if_pos a2] at h
          exact ((((ih _ _).1 h).mono hm).trans h1.symm).trans (((ih _ _).1 a2).mono hm).symm
        · rw [if_neg a1, if_neg a2] at h
          exact ((ih _ _).1 h).mono hm
    · intro h
      induction h with
      | refl => rfl
      | step _ k ihk =>
        rename_i x y _
        rw [ihk]
        have hk : ∀ x y : V, (x, y) ∈ es ++ [e] → (if repM (joinsM [] es) x = repM (joinsM [] es) e.1 then repM (joinsM [] es) e.2 else repM (joinsM [] es) x) = if repM (joinsM [] es) y = repM (joinsM [] es) e.1 then repM (joinsM [] es) e.2 else repM (joinsM [] es) y := by
          intro x y hxy
          rcases List.mem_append.1 hxy with hxy | hxy
          · have := (ih x y).2 (.step (.refl _) (.inl hxy))
            rw [this]
          · have he : (x, y) = e := by simpa using hxy
            subst he
            rw [if_pos rfl]
            by_cases h3 : repM (joinsM [] es) y = repM (joinsM [] es) x
            · rw [if_pos h3]
            · rw [if_neg h3]
        rcases k with k | k
        · exact hk _ _ k
        · exact (hk _ _ k).symm
end
end Go.Proofs.YtkedmlandjlogaaGreat
namespace Go.Proofs.YtkedmlandjlogaaGreat
set_option linter.unusedSectionVars false
section
variable {V : Type} [DecidableEq V]
def posG : List V → V → Nat
  | [], _ => 0
  | y :: l, x => if y = x then 0 else posG l x + 1
theorem posG_self {a : List V} {x : V} : posG (x :: a) x = 0 := by unfold posG; rw [if_pos rfl]
theorem posG_ne {a : List V} {x y : V} (h : y ≠ x) : posG (y :: a) x = posG a x + 1 := by conv => lhs; unfold posG
                                                                                          rw [if_neg h]
theorem posG_lt : ∀ {a : List V} {x : V}, x ∈ a → posG a x < a.length
  | y :: a, x, h => by
    by_cases h1 : y = x
    · subst h1; rw [posG_self]; simp
    · rw [posG_ne h1, List.length_cons]
      have := posG_lt ((List.mem_cons.1 h).resolve_left fun e => h1 e.symm)
      omega
theorem posG_app : ∀ {a b : List V} {x : V}, posG (a ++ b) x = if x ∈ a then posG a x else posG b x + a.length
  | [], b, x => by simp
  | y :: a, b, x => by
    rw [List.cons_append]
    by_cases h1 : y = x
    · subst h1; rw [posG_self, posG_self, if_pos (by simp)]
    · rw [posG_ne h1, posG_ne h1, posG_app]
      by_cases h2 : x ∈ a
      · rw [if_pos h2, if_pos (List.mem_cons_of_mem _ h2)]
      · rw [if_neg h2, if_neg, List.length_cons]
        · omega
        · rw [List.mem_cons, not_or]; exact ⟨fun e => h1 e.symm, h2⟩
def distG (rs : List V) : List V := rs.foldl (fun seen r => if r ∈ seen then seen else seen ++ [r]) []
theorem dist_app (rs : List V) (r : V) : distG (rs ++ [r]) = if r ∈ distG rs then distG rs else distG rs ++ [r] := by unfold distG; rw [List.foldl_append]; rfl
theorem dist_snoc {rs : List V} {k : Nat} (h : k < rs.length) : distG (rs.take (k + 1)) = if rs[k] ∈ distG (rs.take k) then distG (rs.take k) else distG (rs.take k) ++ [rs[k]] := by rw [take_snoc' h, dist_app]
theorem dist_inv (rs : List V) : (distG rs).Nodup ∧ ∀ x, x ∈ distG rs ↔ x ∈ rs := by
  refine take_ind (P := fun rs => (distG rs).Nodup ∧ ∀ x, x ∈ distG rs ↔ x ∈ rs) ⟨by simp [distG], fun x => by simp [distG]⟩ (fun l a ⟨h1, h2⟩ => ?_) rs
  rw [dist_app]
  by_cases h : a ∈ distG l
  · rw [if_pos h]
    refine ⟨h1, fun x => ?_⟩
    rw [h2, List.mem_append, List.mem_singleton]
    constructor
    · exact .inl
    · rintro (h3 | rfl)
      · exact h3
      · exact (h2 _).1 h
  · rw [if_neg h]
    refine ⟨?_, fun x => ?_⟩
    · rw [List.nodup_append]
      refine ⟨h1, by simp, fun y hy c hc => ?_⟩
      rw [List.mem_singleton.1 hc]
      rintro rfl
      exact h hy
    · rw [List.mem_append, List.mem_append, h2]
theorem dist_len (rs : List V) : (distG rs).length ≤ rs.length := List.Nodup.length_le_of_subset (dist_inv rs).1 fun x hx => ((dist_inv rs).2 x).1 hx
theorem dist_pre (rs es : List V) : ∃ t, distG (rs ++ es) = distG rs ++ t := by
  refine take_ind (P := fun es => ∃ t, distG (rs ++ es) = distG rs ++ t) ⟨[], by simp⟩ (fun l a ⟨t, ht⟩ => ?_) es
  rw [← List.append_assoc, dist_app, ht]
  by_cases h : a ∈ distG rs ++ t
  · rw [if_pos h]; exact ⟨t, rfl⟩
  · rw [if_neg h]; exact ⟨t ++ [a], by simp⟩
theorem idx_app_mem {a b : List V} {x : V} (h : x ∈ a) : posG (a ++ b) x = posG a x := by rw [posG_app, if_pos h]
theorem idx_none {a : List V} {x : V} (h : x ∉ a) : posG a x = a.length := by
  induction a with
  | nil => rfl
  | cons y a ih =>
    rw [List.mem_cons, not_or] at h
    rw [posG_ne (Ne.symm h.1), ih h.2]; rfl
theorem idx_at {rs : List V} {k : Nat} (h : k < rs.length) : posG (distG rs) rs[k] = posG (distG (rs.take k)) rs[k] := by
  obtain ⟨t, ht⟩ := dist_pre (rs.take (k + 1)) (rs.drop (k + 1))
  rw [List.take_append_drop] at ht
  have hm : rs[k] ∈ distG (rs.take (k + 1)) := ((dist_inv _).2 _).2 (by rw [take_snoc' h]; exact List.mem_append_right _ (by simp))
  rw [ht, idx_app_mem hm, dist_snoc h]
  by_cases h1 : rs[k] ∈ distG (rs.take k)
  · rw [if_pos h1]
  · rw [if_neg h1, idx_none h1, posG_app, if_neg h1, posG_self]; simp
theorem idx_lt {a : List V} {x : V} (hx : x ∈ a) : posG a x < a.length := posG_lt hx
def numG : Int → List V → List (V × Int)
  | _, [] => []
  | n, r :: rs => (r, n) :: numG (n + 1) rs
theorem numG_keys : ∀ (rs : List V) (n : Int), (numG n rs).map (·.1) = rs
  | [], _ => rfl
  | r :: rs, n => by show r :: (numG (n + 1) rs).map (·.1) = _; rw [numG_keys rs]
theorem numG_len (rs : List V) (n : Int) : (numG n rs).length = rs.length := by
  have := congrArg List.length (numG_keys rs n)
  rwa [List.length_map] at this
theorem numG_app : ∀ (a b : List V) (n : Int), numG n (a ++ b) = numG n a ++ numG (n + a.length) b
  | [], b, n => by simp [numG]
  | r :: a, b, n => by
    show (r, n) :: numG (n + 1) (a ++ b) = (r, n) :: (numG (n + 1) a ++ _)
    rw [numG_app a b]
    have : n + 1 + (a.length : Int) = n + ((r :: a).length : Int) := by rw [List.length_cons]; omega
    rw [this]
theorem numG_look : ∀ (rs : List V) (n : Int) (x : V), lookM (numG n rs) x = if x ∈ rs then some (n + (posG rs x : Int)) else none
  | [], n, x => by simp [numG, lookM]
  | r :: rs, n, x => by
    by_cases h : r = x
    · subst h
      rw [if_pos (by simp), posG_self]
      unfold lookM numG
      rw [List.find?_cons_of_pos (by simp)]
      simp
    · have h1 := numG_look rs (n + 1) x
      have e : lookM (numG n (r :: rs)) x = lookM (numG (n + 1) rs) x := by
        unfold lookM
        conv => lhs; unfold numG
        rw [List.find?_cons_of_neg (by simpa using h)]
      rw [e, h1, posG_ne h]
      by_cases h2 : x ∈ rs
      · rw [if_pos h2, if_pos (List.mem_cons_of_mem _ h2)]
        congr 1
        omega
      · rw [if_neg h2, if_neg]
        rw [List.mem_cons, not_or]
        exact ⟨fun h3 => h h3.symm, h2⟩
end
def hdV (s : List Vx) : Vx := s.headD (0, 0)
def edgS (s : List Vx) : List (Vx × Vx) := (s.drop 1).map fun v => (hdV s, v)
def edgC (l : Cx) : List (Vx × Vx) := l.flatMap edgS
def ufC (l : Cx) : List (Vx × Vx) := joinsM [] (edgC l)
def rootC (l : Cx) (s : List Vx) : Vx := repM (ufC l) (hdV s)
def rootsC (l : Cx) : List Vx := l.map (rootC l)
def numC (l : Cx) (s : List Vx) : Nat := posG (distG (rootsC l)) (rootC l s)
def compC (l : Cx) : List Int := l.map fun s => (numC l s : Int)
theorem edgC_snoc {l : Cx} {i : Nat} (h : i < l.length) : edgC (l.take (i + 1)) = edgC (l.take i) ++ edgS l[i] := by unfold edgC; rw [take_snoc' h, List.flatMap_append]; simp
theorem edgC_mem {l : Cx} {e : Vx × Vx} : e ∈ edgC l ↔ ∃ f ∈ l, e.1 = hdV f ∧ e.2 ∈ f.drop 1 := by
  unfold edgC edgS
  rw [List.mem_flatMap]
  constructor
  · rintro ⟨f, hf, he⟩
    obtain ⟨v, hv, rfl⟩ := List.mem_map.1 he
    exact ⟨f, hf, rfl, hv⟩
  · rintro ⟨f, hf, h1, h2⟩
    exact ⟨f, hf, List.mem_map.2 ⟨e.2, h2, by rw [← h1]⟩⟩
theorem hd_mem {s : List Vx} (h : 0 < s.length) : hdV s ∈ s := by
  cases s with
  | nil => simp at h
  | cons v s => simp [hdV]
theorem mem_hd {s : List Vx} {v : Vx} (h : v ∈ s) : v = hdV s ∨ v ∈ s.drop 1 := by
  cases s with
  | nil => simp at h
  | cons u s => simpa [hdV] using h
theorem rep_in {l : Cx} {s : List Vx} (hs : s ∈ l) {v : Vx} (hv : v ∈ s) : repM (ufC l) v = rootC l s := by
  rcases mem_hd hv with rfl | h
  · rfl
  · exact ((conn_iff (edgC l) _ _).2 (.step (.refl _) (.inl (edgC_mem.2 ⟨s, hs, rfl, h⟩)))).symm
theorem root_shared {l : Cx} {s t : List Vx} (hs : s ∈ l) (ht : t ∈ l) {v : Vx} (h1 : v ∈ s) (h2 : v ∈ t) : rootC l s = rootC l t := by rw [← rep_in hs h1, rep_in ht h2]
theorem root_mem {l : Cx} {s : List Vx} (hs : s ∈ l) : rootC l s ∈ distG (rootsC l) := ((dist_inv _).2 _).2 (List.mem_map_of_mem hs)
theorem num_at {l : Cx} {i : Nat} (h : i < l.length) : numC l l[i] = posG (distG ((rootsC l).take i)) (rootC l l[i]) := by
  have := idx_at (rs := rootsC l) (k := i) (by simpa [rootsC] using h)
  simpa [rootsC, numC] using this
end Go.Proofs.YtkedmlandjlogaaGreat
namespace Go.Proofs.YtkedmlandjlogaaGreat
def shareB (s t : List Vx) : Bool := decide (0 < (sharedV s t true).length)
theorem share_iff {s t : List Vx} : shareB s t = true ↔ ∃ v, v ∈ s ∧ v ∈ t := by
  unfold shareB sharedV
  rw [decide_eq_true_iff, List.length_pos_iff_exists_mem]
  constructor
  · rintro ⟨v, hv⟩
    have := List.mem_filter.1 hv
    exact ⟨v, this.1, by simpa using this.2⟩
  · rintro ⟨v, h1, h2⟩
    exact ⟨v, List.mem_filter.2 ⟨h1, by simpa using h2⟩⟩
def outN (l : Cx) (i : Nat) : List Int := l.map fun s => if rootC l s ∈ distG ((rootsC l).take i) then (numC l s : Int) else -1
def nextN (l : Cx) (i : Nat) : Nat := (distG ((rootsC l).take i)).length
theorem outN_len (l : Cx) (i : Nat) : (outN l i).length = l.length := by simp [outN]
theorem outN_at {l : Cx} {i t : Nat} (h : t < l.length) (h' : t < (outN l i).length) : (outN l i)[t] = if rootC l l[t] ∈ distG ((rootsC l).take i) then (numC l l[t] : Int) else -1 := by simp [outN]
theorem outN_zero (l : Cx) : outN l 0 = List.replicate l.length (-1) := by
  unfold outN
  rw [List.eq_replicate_iff]
  refine ⟨by simp, fun b hb => ?_⟩
  obtain ⟨s, _, rfl⟩ := List.mem_map.1 hb
  rw [if_neg (by simp [distG])]
theorem outN_all (l : Cx) : outN l l.length = compC l := by
  unfold outN compC
  refine List.map_congr_left fun s hs => ?_
  rw [List.take_of_length_le (by simp [rootsC]), if_pos (root_mem hs)]
theorem roots_at {l : Cx} {i : Nat} (h : i < l.length) : (rootsC l)[i]'(by simpa [rootsC] using h) = rootC l l[i] := by simp [rootsC]
theorem dist_next {l : Cx} {i : Nat} (h : i < l.length) : distG ((rootsC l).take (i + 1)) = if rootC l l[i] ∈ distG ((rootsC l).take i) then distG ((rootsC l).take i) else distG ((rootsC l).take i) ++ [rootC l l[i]] := by
  have := dist_snoc (rs := rootsC l) (k := i) (by simpa [rootsC] using h)
  rw [roots_at h] at this
  by_cases hm : rootC l l[i] ∈ distG ((rootsC l).take i)
  · rw [if_pos hm] at this ⊢; exact this
  · rw [if_neg hm] at this ⊢; exact this
theorem num_of_mem {l : Cx} {i : Nat} {s : List Vx} (h : rootC l s ∈ distG ((rootsC l).take i)) : numC l s < nextN l i := by
  obtain ⟨t, ht⟩ := dist_pre ((rootsC l).take i) ((rootsC l).drop i)
  rw [List.take_append_drop] at ht
  unfold numC nextN
  rw [ht, idx_app_mem h]
  exact idx_lt h
theorem outN_skip {l : Cx} {i : Nat} (h : i < l.length) (h' : i < (outN l i).length) (h0 : 0 ≤ (outN l i)[i]) : outN l (i + 1) = outN l i ∧ nextN l (i + 1) = nextN l i := by
  rw [outN_at h] at h0
  have hm : rootC l l[i] ∈ distG ((rootsC l).take i) := by
    by_cases h1 : rootC l l[i] ∈ distG ((rootsC l).take i)
    · exact h1
    · rw [if_neg h1] at h0; omega
  have := dist_next h
  rw [if_pos hm] at this
  unfold outN nextN
  rw [this]
  exact ⟨rfl, rfl⟩
theorem outN_new {l : Cx} {i : Nat} (h : i < l.length) (h' : i < (outN l i).length) (h0 : (outN l i)[i] < 0) : rootC l l[i] ∉ distG ((rootsC l).take i) ∧ nextN l (i + 1) = nextN l i + 1 ∧ numC l l[i] = nextN l i := by
  rw [outN_at h] at h0
  have hm : rootC l l[i] ∉ distG ((rootsC l).take i) := fun h1 => by rw [if_pos h1] at h0; omega
  refine ⟨hm, ?_, ?_⟩
  · unfold nextN
    rw [dist_next h, if_neg hm, List.length_append]; rfl
  · rw [num_at h, idx_none hm]; rfl
structure Mid (l : Cx) (i : Nat) (o : List Int) : Prop where
  len : o.length = l.length
  each : ∀ (t : Nat) (h : t < l.length) (h' : t < o.length), o[t] = (outN l i)[t]'(by rw [outN_len]; exact h) ∨ (o[t] = (nextN l i : Int) ∧ ∃ hi : i < l.length, rootC l l[t] = rootC l l[i])
  own : ∀ (h' : i < o.length), o[i] = (nextN l i : Int)
theorem outN_lt {l : Cx} {i t : Nat} (h : t < l.length) (h' : t < (outN l i).length) : (outN l i)[t] < (nextN l i : Int) ∧ -1 ≤ (outN l i)[t] := by
  rw [outN_at h]
  by_cases h1 : rootC l l[t] ∈ distG ((rootsC l).take i)
  · rw [if_pos h1]
    have := num_of_mem h1
    omega
  · rw [if_neg h1]; omega
theorem Mid.start {l : Cx} {i : Nat} (h : i < l.length) : Mid l i ((outN l i).set i (nextN l i : Int)) :=
  ⟨by rw [List.length_set, outN_len], fun t h1 h2 => by
    rw [List.getElem_set]
    by_cases hit : i = t
    · subst hit; rw [if_pos rfl]; exact .inr ⟨rfl, h, rfl⟩
    · rw [if_neg hit]; exact .inl rfl, fun h' => by rw [List.getElem_set, if_pos rfl]⟩
theorem Mid.root {l : Cx} {i : Nat} {o : List Int} (M : Mid l i o) {t : Nat} (h : t < l.length) (h' : t < o.length) (hi : i < l.length) (ho : o[t] = (nextN l i : Int)) : rootC l l[t] = rootC l l[i] := by
  rcases M.each t h h' with h1 | ⟨_, _, h2⟩
  · have := (outN_lt (i := i) h (by rw [outN_len]; exact h)).1
    omega
  · exact h2
theorem Mid.set {l : Cx} {i : Nat} {o : List Int} (M : Mid l i o) (hi : i < l.length) {j k : Nat} (hj : j < l.length) (hk : k < l.length) (hk' : k < o.length) (ho : o[k] = (nextN l i : Int)) (hs : shareB l[j] l[k] = true) : Mid l i (o.set j (nextN l i : Int)) :=
  ⟨by rw [List.length_set, M.len], fun t h1 h2 => by
    have h2' : t < o.length := by simpa using h2
    rw [List.getElem_set]
    by_cases hjt : j = t
    · subst hjt
      rw [if_pos rfl]
      obtain ⟨v, v1, v2⟩ := share_iff.1 hs
      refine .inr ⟨rfl, hi, ?_⟩
      rw [root_shared (List.getElem_mem hj) (List.getElem_mem hk) v1 v2]
      exact M.root hk hk' hi ho
    · rw [if_neg hjt]; exact M.each t h1 h2', fun h' => by
    rw [List.getElem_set]
    by_cases hji : j = i
    · rw [if_pos hji]
    · rw [if_neg hji]; exact M.own _⟩
def negN (o : List Int) : Nat := (o.filter fun x => decide (x < 0)).length
theorem negN_set : ∀ {o : List Int} {j : Nat} {m : Int} (h : j < o.length), o[j] < 0 → 0 ≤ m → negN (o.set j m) + 1 = negN o
  | x :: o, 0, m, _, h1, h2 => by
    have h1' : x < 0 := h1
    unfold negN
    rw [List.set_cons_zero, List.filter_cons_of_neg (by simpa using h2), List.filter_cons_of_pos (by simpa using h1')]
    rfl
  | x :: o, j + 1, m, h, h1, h2 => by
    have ih := negN_set (o := o) (j := j) (m := m) (by simpa using h) h1 h2
    unfold negN at ih ⊢
    rw [List.set_cons_succ]
    by_cases hx : x < 0
    · rw [List.filter_cons_of_pos (by simpa using hx), List.filter_cons_of_pos (by simpa using hx), List.length_cons, List.length_cons]; omega
    · rw [List.filter_cons_of_neg (by simpa using hx), List.filter_cons_of_neg (by simpa using hx)]; exact ih
def Shut (l : Cx) (i : Nat) (o : List Int) (j k : Nat) : Prop := ∀ (h1 : j < l.length) (h2 : k < l.length) (h3 : j < o.length) (h4 : k < o.length), o[j] < 0 → o[k] = (nextN l i : Int) → shareB l[j] l[k] = false
theorem Mid.fin {l : Cx} {i : Nat} {o : List Int} (M : Mid l i o) (hne : ∀ s ∈ l, 0 < s.length) (hi : i < l.length) (h0 : (outN l i)[i]'(by rw [outN_len]; exact hi) < 0) (hc : ∀ j k, j < l.length → k < l.length → Shut l i o j k) : o = outN l (i + 1) := by
  obtain ⟨n1, n2, n3⟩ := outN_new hi (by rw [outN_len]; exact hi) h0
  have hlen := M.len
  have key : ∀ {w : Vx}, Conn (edgC l) (hdV l[i]) w → ∃ (k : Nat) (h1 : k < l.length) (h2 : k < o.length), o[k] = (nextN l i : Int) ∧ w ∈ l[k] := by
    intro w hw
    induction hw with
    | refl => exact ⟨i, hi, by omega, M.own _, hd_mem (hne _ (List.getElem_mem hi))⟩
    | step h e ih =>
      rename_i v w
      obtain ⟨k, k1, k2, k3, k4⟩ := ih
      have hf : ∃ f ∈ l, v ∈ f ∧ w ∈ f := by
        rcases e with e | e
        · obtain ⟨f, hf, e1, e2⟩ := edgC_mem.1 e
          have e1' : v = hdV f := e1
          exact ⟨f, hf, e1' ▸ hd_mem (hne f hf), List.mem_of_mem_drop e2⟩
        · obtain ⟨f, hf, e1, e2⟩ := edgC_mem.1 e
          have e1' : w = hdV f := e1
          exact ⟨f, hf, List.mem_of_mem_drop e2, e1' ▸ hd_mem (hne f hf)⟩
      obtain ⟨f, hf, f1, f2⟩ := hf
      obtain ⟨g, hg, rfl⟩ := List.getElem_of_mem hf
      refine ⟨g, hg, by omega, ?_, f2⟩
      rcases M.each g hg (by omega) with h5 | ⟨h5, _⟩
      · exfalso
        have hr : rootC l l[g] = rootC l l[i] := by
          rw [← rep_in hf f1]
          exact ((conn_iff (edgC l) _ _).2 h).symm
        rw [outN_at hg, hr, if_neg n1] at h5
        have h6 := hc g k hg k1 hg k1 (by omega) k2 (by omega) k3
        have h7 : shareB l[g] l[k] = true := share_iff.2 ⟨v, f1, k4⟩
        rw [h6] at h7; cases h7
      · exact h5
  apply List.ext_getElem (by rw [hlen, outN_len])
  intro t t1 t2
  have ht : t < l.length := by omega
  rw [outN_at ht, dist_next hi, if_neg n1]
  by_cases hr : rootC l l[t] = rootC l l[i]
  · rw [if_pos (by rw [hr]; simp)]
    have hn : numC l l[t] = nextN l i := by rw [← n3]; unfold numC; rw [hr]
    rw [hn]
    rcases M.each t ht t1 with h5 | ⟨h5, _⟩
    · exfalso
      rw [outN_at ht, hr, if_neg n1] at h5
      obtain ⟨k, k1, k2, k3, k4⟩ := key ((conn_iff (edgC l) (hdV l[i]) (hdV l[t])).1 hr.symm)
      have h6 := hc t k ht k1 ht k1 t1 k2 (by omega) k3
      have h7 : shareB l[t] l[k] = true := share_iff.2 ⟨_, hd_mem (hne _ (List.getElem_mem ht)), k4⟩
      rw [h6] at h7; cases h7
    · exact h5
  · have hm : (rootC l l[t] ∈ distG ((rootsC l).take i) ++ [rootC l l[i]]) ↔ rootC l l[t] ∈ distG ((rootsC l).take i) := by
      rw [List.mem_append, List.mem_singleton]
      exact ⟨fun h => h.resolve_right hr, .inl⟩
    rcases M.each t ht t1 with h5 | ⟨_, _, h6⟩
    · rw [h5, outN_at ht]
      by_cases h7 : rootC l l[t] ∈ distG ((rootsC l).take i)
      · rw [if_pos h7, if_pos (hm.2 h7)]
      · rw [if_neg h7, if_neg fun h => h7 (hm.1 h)]
    · exact absurd h6 hr
end Go.Proofs.YtkedmlandjlogaaGreat
namespace Go.Proofs.YtkedmlandjlogaaGreat
open Go.RowKit
section
variable {P : Program} {ops : Array Oper} {hp : List HObj} {fr : List Dat} {Q : Post} {rest : List Oper} {c : Code} {d : Dat} {α : Type} {R : Rel α} {e : TypeId}
theorem WC.freeze {_gR : Good R} {v : Value} {xs : List α} (h : WC P Q c fr (hKnow v (dS (Arr R) xs) :: hp)) : WC P Q c fr (hRow v e R xs :: hp) := WC.of fun P0 B w0 w a hh hf => by
  have hg : (hKnow v (dS (Arr R) xs)).blk = none := rfl
  have hd : (dS (Arr R) xs).rd (Imm P0 B hp) w v := Own.keep hh
  exact h.on (Hp.ghost (l := []) hg hh.drop hd) (hf.mono fun d u hd => d.weak hd fun k hk => (imm_ghost hg [] k).2 (Imm.sub k hk))
theorem WL.use {v : Value} (t : Nat) (ht : fr[t]? = some (dX v)) (hm : hKnow v d ∈ hp) (h : WL P ops Q rest (fr.set t d) hp) : WL P ops Q rest fr hp := WL.of fun P0 B w0 w a hh hf => by
  refine h.on hh ⟨hf.defers, by rw [hf.size, List.length_set], fun t' d' hd' => ?_⟩
  by_cases htt : t = t'
  · subst htt
    rw [List.getElem?_set] at hd'
    simp only [if_true] at hd'
    split at hd'
    · cases hd'
      have h1 : a.tmps.getD t undef = v := hf.rd t _ ht
      rw [h1]
      exact hh.ok _ hm
    · cases hd'
  · rw [List.getElem?_set_ne htt] at hd'
    exact hf.rd t' d' hd'
theorem bare_RV {x : Int × Int} : (dS RV x).Bare := fun _ _ _ _ _ h => h
structure CapH (hp : List HObj) (v : Value) (d : Dat) : Prop where
  out : ∀ {P0 : Nat → Prop} {B : Nat} {w0 w : World}, Hp P0 B w0 hp w → d.rd anyB w v
theorem CapH.map {K V : Type} {kv : K → Value} {vv : V → Value} {R : Rel V} [Good R] {M : List (K × V)} {b m : Nat} {T : TypeId} (h1 : hCell b T 1 false (dX (.map (some m))) ∈ hp) (h2 : hM m kv vv M ∈ hp) (hvv : ∀ I w (y : V), R I w (vv y) y) :
    CapH hp (.pointer (some ⟨b, 0, none⟩)) (dP 1 false (dS (MapR kv R) M)) := CapH.mk fun {P0 B w0 w} hh => by
  obtain ⟨cs, u, c1, c2, c0, c3, c4, c5⟩ := hh.ok _ h1
  have hu : u = .map (some m) := c5
  have hb : w.heap[m]? = some (mapObj _) := hh.ok _ h2
  refine ⟨b, 0, u, rfl, cells_of_obj c1 c2 c0 c3 c4 trivial, m, M.map fun p => vv p.2, hu, trivial, by simp, ?_, fun k q1 q2 => ?_⟩
  · rw [hb]
    congr 2
    unfold encM
    rw [List.zip_map', List.map_map]
    rfl
  · simp only [List.getElem_map]
    exact hvv _ _ _
theorem SY.callO {dst : Option Tmp} {ty : TypeId} {ps : String} {af : Array Edge} {g : Option (Nat × Bool)} {f : FuncId} {caps : List Value} {t : Tmp} {args : Array Operand} {ats : Array TypeId} {ds cds : List Dat} (hF : Fn P f (ds ++ cds) d) (hd : d.Bare) (he : Enters P f) (hc : OpD fr (.tmp t) (dX (.func (.func f) #[] caps.toArray))) (ha : ArgsD fr args.toList ds)
    (hl : caps.length = cds.length) (hcap : ∀ (i : Nat) (v : Value) (d : Dat), caps[i]? = some v → cds[i]? = some d → CapH hp v d) :
    SY P ops hp { dst := dst, op := .call { callee := .value (.tmp t), args := args, argTypes := ats }, type := ty, pos := ps, after := af, guard := g } fr d := SY.mk fun {P0 B w0 w a} hh ho K Q hk => by
  have hv : a.eval (.tmp t) = .func (.func f) #[] caps.toArray := hc.get (by simp [Op.operands, Call.operands]) ho
  have hal := ha.1
  have h1 := hF.out anyB w (args.toList.map a.eval ++ caps) (by simp [hl]; simpa using hal) fun i d hd => by
    by_cases hi : i < ds.length
    · rw [List.getElem?_append_left hi] at hd
      have hi' : i < args.toList.length := by omega
      have h2 := (ha.2 i _ d (List.getElem?_eq_getElem hi') hd).get (by simp only [Op.operands, Call.operands]; simp) ho
      have hi2 : i < args.size := by simpa using hi'
      rw [List.getD_eq_getElem?_getD, List.getElem?_append_left (by simpa using hi2)]
      exact d.weak (by simpa [hi2] using h2) fun _ _ => trivial
    · rw [List.getElem?_append_right (by omega)] at hd
      have hi3 : i - ds.length < caps.length := by rw [hl]; exact (List.getElem?_eq_some_iff.1 hd).1
      have h2 := (hcap _ _ d (List.getElem?_eq_getElem hi3) hd).out hh
      have hlen : (args.toList.map a.eval).length = ds.length := by rw [List.length_map, hal]
      rw [List.getD_eq_getElem?_getD, List.getElem?_append_right (by omega), hlen, List.getElem?_eq_getElem hi3]
      exact h2
  have hvs : args.map a.eval ++ caps.toArray = (args.toList.map a.eval ++ caps).toArray := by apply Array.ext'; simp
  unfold Oper.wp
  have h4 := he (args.map a.eval ++ caps.toArray) w
  have : (execOp a.eval { dst := dst, op := .call { callee := .value (.tmp t), args := args, argTypes := ats }, type := ty, pos := ps, after := af, guard := g }).run P w = .ok (.enter f (args.map a.eval ++ caps.toArray)) w := by
    unfold execOp
    simp only [resolve]
    simp [hv, Deferred.ofValue, invoke, h4]
  rw [this, hvs]
  exact h1.mono fun e w' ⟨v, he, e1, hd'⟩ => by subst he; exact hk v w' e1 (hd _ _ _ _ _ hd')
theorem SY.callO1 {dst : Option Tmp} {ty : TypeId} {ps : String} {af : Array Edge} {g : Option (Nat × Bool)} {f : FuncId} {cv : Value} {t : Tmp} {args : Array Operand} {ats : Array TypeId} {ds : List Dat} {cd : Dat} (hF : Fn P f (ds ++ [cd]) d) (hd : d.Bare) (he : Enters P f) (hc : OpD fr (.tmp t) (dX (.func (.func f) #[] [cv].toArray))) (ha : ArgsD fr args.toList ds) (hcap : CapH hp cv cd) :
    SY P ops hp { dst := dst, op := .call { callee := .value (.tmp t), args := args, argTypes := ats }, type := ty, pos := ps, after := af, guard := g } fr d :=
  SY.callO hF hd he hc ha rfl fun i v d' h1 h2 => by
    match i, h1, h2 with
    | 0, h1, h2 => cases h1; cases h2; exact hcap
end
section
variable {P : Program} {ops : Array Oper} {hp : List HObj} {fr : List Dat} {d : Dat}
variable {dst : Option Tmp} {ty : TypeId} {ps : String} {af : Array Edge} {g : Option (Nat × Bool)} {t k e : TypeId} {z : Value} {K α : Type} [DecidableEq K] {kv : K → Value} {ok : K → Prop} {R : Rel α} {m : List (K × α)}
theorem SY.lookR2 [Good R] {x y : Operand} {v : K} {a0 : α} (T : MapT P t k e z) (H : KeyT P k kv ok) (hx : OpD fr x (dS (MapR kv R) m)) (hy : OpD fr y d) (hd : IsV d (kv v)) (ho : ok v) (hok : ∀ p ∈ m, ok p.1) (hn : (m.map (·.1)).Nodup) (hz : ∀ I w, R I w z a0) :
    SY P ops hp { dst := dst, op := .lookup t x y true, type := ty, pos := ps, after := af, guard := g } fr (dT [dS R ((Go.Proofs.YtkedmlandjlogaaGreat.lookM m v).getD a0), dB (Go.Proofs.YtkedmlandjlogaaGreat.lookM m v).isSome]) := SY.val fun {I w a} hon => by
  obtain ⟨b, us, h1, h2, h3, h4, h5⟩ := hx.get (by simp [Op.operands]) hon
  have h6 := hd.is _ _ _ (hy.get (by simp [Op.operands]) hon)
  have hkeys : ((m.map (·.1)).zip us).map (·.1) = m.map (·.1) := by rw [List.map_fst_zip]; simp [h3]
  refine ⟨.tuple #[((Go.Proofs.YtkedmlandjlogaaGreat.lookM ((m.map (·.1)).zip us) v).map id).getD z, .bool (Go.Proofs.YtkedmlandjlogaaGreat.lookM ((m.map (·.1)).zip us) v).isSome], ?_, [((Go.Proofs.YtkedmlandjlogaaGreat.lookM ((m.map (·.1)).zip us) v).map id).getD z, .bool (Go.Proofs.YtkedmlandjlogaaGreat.lookM ((m.map (·.1)).zip us) v).isSome], rfl, rfl, fun i e x he hx => ?_⟩
  · unfold execOp
    simp only [h1, h6, Sem.run_bind, run_lookup (vv := id) T H (fun (p : K × Value) (hp : p ∈ (m.map (·.1)).zip us) => by
      have : p.1 ∈ m.map (·.1) := by rw [← hkeys]; exact List.mem_map_of_mem hp
      obtain ⟨q, hq, he⟩ := List.mem_map.1 this
      rw [← he]; exact hok q hq) (by rw [hkeys]; exact hn) ho h4 true, Result.andThen_ok, Sem.run_pure]
    rfl
  · rcases lookM_zip h3 v with ⟨e1, e2⟩ | ⟨j, j1, j2, e1, e2⟩
    · match i, he, hx with
      | 0, he, hx => cases he; cases hx; rw [e1, e2]; exact hz I w
      | 1, he, hx => cases he; cases hx; rw [e1, e2]; rfl
    · match i, he, hx with
      | 0, he, hx => cases he; cases hx; rw [e1, e2]; exact h5 j j1 j2
      | 1, he, hx => cases he; cases hx; rw [e1, e2]; rfl
theorem SY.lookR2n [Good R] {x y : Operand} {v : K} {a0 : α} (T : MapT P t k e z) (H : KeyT P k kv ok) (hx : OpD fr x (dS (MapR kv R) m)) (hy : OpD fr y d) (hd : IsV d (kv v)) (ho : ok v) (hok : ∀ p ∈ m, ok p.1) (hn : (m.map (·.1)).Nodup) (hz : ∀ I w, R I w z a0) (hl : Go.Proofs.YtkedmlandjlogaaGreat.lookM m v = none) :
    SY P ops hp { dst := dst, op := .lookup t x y true, type := ty, pos := ps, after := af, guard := g } fr (dT [dS R a0, dB false]) := by
  have := SY.lookR2 (ops := ops) (hp := hp) (dst := dst) (ty := ty) (ps := ps) (af := af) (g := g) T H hx hy hd ho hok hn hz
  rwa [hl] at this
theorem SY.lookR2s [Good R] {x y : Operand} {v : K} {a0 u : α} (T : MapT P t k e z) (H : KeyT P k kv ok) (hx : OpD fr x (dS (MapR kv R) m)) (hy : OpD fr y d) (hd : IsV d (kv v)) (ho : ok v) (hok : ∀ p ∈ m, ok p.1) (hn : (m.map (·.1)).Nodup) (hz : ∀ I w, R I w z a0) (hl : Go.Proofs.YtkedmlandjlogaaGreat.lookM m v = some u) :
    SY P ops hp { dst := dst, op := .lookup t x y true, type := ty, pos := ps, after := af, guard := g } fr (dT [dS R u, dB true]) := by
  have := SY.lookR2 (ops := ops) (hp := hp) (dst := dst) (ty := ty) (ps := ps) (af := af) (g := g) T H hx hy hd ho hok hn hz
  rwa [hl] at this
end
section
variable {P : Program} {ops : Array Oper} {hp : List HObj} {fr : List Dat} {d : Dat}
variable {dst : Option Tmp} {ty : TypeId} {ps : String} {af : Array Edge} {g : Option (Nat × Bool)} {t k e : TypeId} {z : Value} {K : Type} [DecidableEq K] {kv : K → Value} {ok : K → Prop} {m : List (K × Int)} {b : Nat}
abbrev vvN (n : Int) : Value := .int .i64 n
theorem SY.lookN {x y : Operand} {v : K} {u : Int} (T : MapT P t k e z) (H : KeyT P k kv ok) (hx : OpD fr x (dX (.map (some b)))) (hm : hM b kv vvN m ∈ hp) (hy : OpD fr y d) (hd : IsV d (kv v)) (ho : ok v) (hok : ∀ p ∈ m, ok p.1) (hn : (m.map (·.1)).Nodup) (hl : Go.Proofs.YtkedmlandjlogaaGreat.lookM m v = some u) :
    SY P ops hp { dst := dst, op := .lookup t x y false, type := ty, pos := ps, after := af, guard := g } fr (dI u) := by
  have := SY.lookM (ops := ops) (dst := dst) (ty := ty) (ps := ps) (af := af) (g := g) T H hx hm hy hd ho hok hn
  rwa [hl] at this
theorem SY.lookN2s {x y : Operand} {v : K} {u : Int} (T : MapT P t k e z) (H : KeyT P k kv ok) (hx : OpD fr x (dX (.map (some b)))) (hm : hM b kv vvN m ∈ hp) (hy : OpD fr y d) (hd : IsV d (kv v)) (ho : ok v) (hok : ∀ p ∈ m, ok p.1) (hn : (m.map (·.1)).Nodup) (hl : Go.Proofs.YtkedmlandjlogaaGreat.lookM m v = some u) :
    SY P ops hp { dst := dst, op := .lookup t x y true, type := ty, pos := ps, after := af, guard := g } fr (dT [dI u, dB true]) := by
  have := SY.lookM2 (ops := ops) (dst := dst) (ty := ty) (ps := ps) (af := af) (g := g) T H hx hm hy hd ho hok hn
  rwa [hl] at this
theorem SY.lookN2n {x y : Operand} {v : K} (T : MapT P t k e z) (H : KeyT P k kv ok) (hx : OpD fr x (dX (.map (some b)))) (hm : hM b kv vvN m ∈ hp) (hy : OpD fr y d) (hd : IsV d (kv v)) (ho : ok v) (hok : ∀ p ∈ m, ok p.1) (hn : (m.map (·.1)).Nodup) (hl : Go.Proofs.YtkedmlandjlogaaGreat.lookM m v = none) :
    SY P ops hp { dst := dst, op := .lookup t x y true, type := ty, pos := ps, after := af, guard := g } fr (dT [dX z, dB false]) := by
  have := SY.lookM2 (ops := ops) (dst := dst) (ty := ty) (ps := ps) (af := af) (g := g) T H hx hm hy hd ho hok hn
  rwa [hl] at this
end
end Go.Proofs.YtkedmlandjlogaaGreat
