/-
  Part 24 of the texts that the claims of this seat lean on: walks of the program's functions by contracts over symbolic frames, and plain laws of what they compute. No condition.
-/
import Derived.Test.YtjbepoofigokjaaGreatVt17
import Derived.Test.YtjbepoofigokjaaGreatVt22
import Derived.Test.YtjbepoofigokjaaGreatVt23
set_option linter.unusedVariables false
set_option linter.unusedSimpArgs false
set_option linter.unusedSectionVars false
namespace Go.Proofs.YtjbepoofigokjaaGreat
set_option linter.unusedSectionVars false
section
variable {V : Type} [DecidableEq V]
def repM (m : List (V × V)) (v : V) : V := m.foldl (fun x p => if x = p.1 then p.2 else x) v
def depM (m : List (V × V)) (v : V) : Nat := (m.foldl (fun (x : V × Nat) p => if x.1 = p.1 then (p.2, x.2 + 1) else x) (v, 0)).2
theorem rep_dep (m : List (V × V)) (v : V) (n : Nat) : (m.foldl (fun (x : V × Nat) p => if x.1 = p.1 then (p.2, x.2 + 1) else x) (v, n)).1 = repM m v := by
  induction m generalizing v n with
  | nil => rfl
  | cons p m ih =>
    unfold repM at *
    rw [List.foldl_cons, List.foldl_cons]
    by_cases h : v = p.1
    · rw [if_pos h, if_pos h]; exact ih _ _
    · rw [if_neg h, if_neg h]; exact ih _ _
theorem rep_snoc (m : List (V × V)) (a b v : V) : repM (m ++ [(a, b)]) v = if repM m v = a then b else repM m v := by
  unfold repM; rw [List.foldl_append]; rfl
theorem dep_snoc (m : List (V × V)) (a b v : V) : depM (m ++ [(a, b)]) v = if repM m v = a then depM m v + 1 else depM m v := by
  have h := rep_dep m v 0
  unfold depM
  rw [List.foldl_append]
  simp only [List.foldl_cons, List.foldl_nil]
  rw [h]
  by_cases h1 : repM m v = a
  · rw [if_pos h1, if_pos h1]
  · rw [if_neg h1, if_neg h1]
inductive OkM : List (V × V) → Prop
  | nil : OkM []
  | snoc {m : List (V × V)} {a b : V} (h : OkM m) (ha : a ∉ m.map (·.1)) (hb : b ∉ m.map (·.1)) (hne : a ≠ b) : OkM (m ++ [(a, b)])
theorem look_snoc {m : List (V × V)} {a b v : V} (ha : a ∉ m.map (·.1)) : lookM (m ++ [(a, b)]) v = if v = a then some b else lookM m v := by
  unfold lookM
  rw [List.find?_append]
  by_cases h : v = a
  · subst h
    rw [if_pos rfl]
    have : m.find? (fun p => decide (p.1 = v)) = none := by
      rw [List.find?_eq_none]
      intro p hp hc
      exact ha (List.mem_map.2 ⟨p, hp, of_decide_eq_true hc⟩)
    rw [this]
    simp
  · rw [if_neg h]
    cases h1 : m.find? (fun p => decide (p.1 = v)) with
    | none =>
      have : decide (a = v) = false := decide_eq_false fun hc => h hc.symm
      simp [this]
    | some p => simp
theorem look_none {m : List (V × V)} {v : V} : lookM m v = none ↔ v ∉ m.map (·.1) := by
  unfold lookM
  rw [Option.map_eq_none_iff, List.find?_eq_none]
  constructor
  · intro h hc
    obtain ⟨p, hp, h1⟩ := List.mem_map.1 hc
    exact h p hp (decide_eq_true h1)
  · intro h p hp hc
    exact h (List.mem_map.2 ⟨p, hp, of_decide_eq_true hc⟩)
theorem rep_root {m : List (V × V)} (h : OkM m) {v : V} (hv : v ∉ m.map (·.1)) : repM m v = v ∧ depM m v = 0 := by
  induction h with
  | nil => exact ⟨rfl, rfl⟩
  | snoc h ha hb hne ih =>
    rename_i m a b
    rw [List.map_append, List.mem_append, not_or] at hv
    obtain ⟨h1, h2⟩ := ih hv.1
    have h3 : v ≠ a := by simpa using hv.2
    rw [rep_snoc, dep_snoc, h1, h2, if_neg h3, if_neg h3]
    exact ⟨rfl, rfl⟩
theorem rep_step {m : List (V × V)} (h : OkM m) {v u : V} (hv : lookM m v = some u) : repM m v = repM m u ∧ depM m u < depM m v := by
  induction h with
  | nil => simp [lookM] at hv
  | snoc h ha hb hne ih =>
    rename_i m a b
    rw [look_snoc ha] at hv
    by_cases h1 : v = a
    · rw [if_pos h1] at hv
      subst h1
      cases hv
      obtain ⟨h2, h3⟩ := rep_root h ha
      obtain ⟨h4, h5⟩ := rep_root h hb
      rw [rep_snoc, rep_snoc, dep_snoc, dep_snoc, h2, h3, h4, h5, if_pos rfl, if_neg (Ne.symm hne), if_pos rfl, if_neg (Ne.symm hne)]
      exact ⟨rfl, by omega⟩
    · rw [if_neg h1] at hv
      obtain ⟨h2, h3⟩ := ih hv
      rw [rep_snoc, rep_snoc, dep_snoc, dep_snoc, h2]
      refine ⟨rfl, ?_⟩
      by_cases h4 : repM m u = a
      · rw [if_pos h4, if_pos h4]; omega
      · rw [if_neg h4, if_neg h4]; exact h3
theorem rep_not {m : List (V × V)} (h : OkM m) (v : V) : repM m v ∉ m.map (·.1) := by
  induction h with
  | nil => simp
  | snoc h ha hb hne ih =>
    rename_i m a b
    rw [rep_snoc, List.map_append, List.mem_append]
    by_cases h1 : repM m v = a
    · rw [if_pos h1]; simp only [List.map_cons, List.map_nil, List.mem_singleton]
      exact fun hc => hc.elim hb fun hc => hne hc.symm
    · rw [if_neg h1]; simp only [List.map_cons, List.map_nil, List.mem_singleton]
      exact fun hc => hc.elim ih h1
def joinM (m : List (V × V)) (u v : V) : List (V × V) := if repM m u = repM m v then m else m ++ [(repM m u, repM m v)]
theorem join_ok {m : List (V × V)} (h : OkM m) (u v : V) : OkM (joinM m u v) := by
  unfold joinM
  by_cases h1 : repM m u = repM m v
  · rw [if_pos h1]; exact h
  · rw [if_neg h1]; exact OkM.snoc h (rep_not h u) (rep_not h v) h1
theorem join_rep (m : List (V × V)) (u v x : V) : repM (joinM m u v) x = if repM m x = repM m u then repM m v else repM m x := by
  unfold joinM
  by_cases h1 : repM m u = repM m v
  · rw [if_pos h1]
    by_cases h2 : repM m x = repM m u
    · rw [if_pos h2, h2, h1]
    · rw [if_neg h2]
  · rw [if_neg h1, rep_snoc]
def joinsM (m : List (V × V)) (es : List (V × V)) : List (V × V) := es.foldl (fun m e => joinM m e.1 e.2) m
theorem joins_ok {es : List (V × V)} : ∀ {m : List (V × V)}, OkM m → OkM (joinsM m es) := by
  induction es with
  | nil => intro m h; exact h
  | cons e es ih => intro m h; exact ih (join_ok h e.1 e.2)
inductive Conn (es : List (V × V)) : V → V → Prop
  | refl (u : V) : Conn es u u
  | step {u v w : V} (h : Conn es u v) (e : (v, w) ∈ es ∨ (w, v) ∈ es) : Conn es u w
theorem Conn.trans {es : List (V × V)} {u v w : V} (h : Conn es u v) (k : Conn es v w) : Conn es u w := by
  induction k with
  | refl => exact h
  | step _ e ih => exact ih.step e
theorem Conn.symm {es : List (V × V)} {u v : V} (h : Conn es u v) : Conn es v u := by
  induction h with
  | refl => exact .refl _
  | step _ e ih => exact (Conn.step (.refl _) e.symm).trans ih
theorem Conn.mono {es es' : List (V × V)} (hs : ∀ e ∈ es, e ∈ es') {u v : V} (h : Conn es u v) : Conn es' u v := by
  induction h with
  | refl => exact .refl _
  | step _ e ih => exact ih.step (e.elim (fun e => .inl (hs _ e)) fun e => .inr (hs _ e))
theorem joins_snoc (es : List (V × V)) (e : V × V) : joinsM [] (es ++ [e]) = joinM (joinsM [] es) e.1 e.2 := by unfold joinsM; rw [List.foldl_append]; rfl
theorem take_ind {α : Type} {P : List α → Prop} (h0 : P []) (h1 : ∀ l a, P l → P (l ++ [a])) : ∀ l, P l := fun l => by
  have : P l.reverse.reverse := by
    induction l.reverse with
    | nil => exact h0
    | cons a l ih => rw [List.reverse_cons]; exact h1 _ _ ih
  rwa [List.reverse_reverse] at this
theorem conn_iff (es : List (V × V)) : ∀ u v, repM (joinsM [] es) u = repM (joinsM [] es) v ↔ Conn es u v := by
  refine take_ind (P := fun es => ∀ u v, repM (joinsM [] es) u = repM (joinsM [] es) v ↔ Conn es u v) ?_ ?_ es
  · intro u v
    constructor
    · intro h
      have : u = v := h
      subst this
      exact .refl _
    · intro h
      induction h with
      | refl => rfl
      | step _ e _ => simp at e
  · intro es e ih u v
    have hm : ∀ x ∈ es, x ∈ es ++ [e] := fun x hx => List.mem_append_left _ hx
    have h1 : Conn (es ++ [e]) e.1 e.2 := .step (.refl _) (.inl (by simp))
    rw [joins_snoc, join_rep, join_rep]
    constructor
    · intro h
      by_cases a1 : repM (joinsM [] es) u = repM (joinsM [] es) e.1
      · have c1 := ((ih _ _).1 a1).mono hm
        by_cases a2 : repM (joinsM [] es) v = repM (joinsM [] es) e.1
        · exact c1.trans (((ih _ _).1 a2).mono hm).symm
        · rw [if_pos a1, if_neg a2] at h
          exact (c1.trans h1).trans (((ih _ _).1 h).mono hm)
      · by_cases a2 : repM (joinsM [] es) v = repM (joinsM [] es) e.1
        · rw [if_neg a1, if_pos a2] at h
          exact ((((ih _ _).1 h).mono hm).trans h1.symm).trans (((ih _ _).1 a2).mono hm).symm
        · rw [if_neg a1, if_neg a2] at h
          exact ((ih _ _).1 h).mono hm
    · intro h
      induction h with
      | refl => rfl
      | step _ k ihk =>
        rename_i x y _
        rw [ihk]
        have hk : ∀ x y : V, (x, y) ∈ es ++ [e] → (if repM (joinsM [] es) x = repM (joinsM [] es) e.1 then repM (joinsM [] es) e.2 else repM (joinsM [] es) x) = if repM (joinsM [] es) y = repM (joinsM [] es) e.1 then repM (joinsM [] es) e.2 else repM (joinsM [] es) y := by
          intro x y hxy
          rcases List.mem_append.1 hxy with hxy | hxy
          · have := (ih x y).2 (.step (.refl _) (.inl hxy))
            rw [this]
          · have he : (x, y) = e := by simpa using hxy
            subst he
            rw [if_pos rfl]
            by_cases h3 : repM (joinsM [] es) y = repM (joinsM [] es) x
            · rw [if_pos h3]
            · rw [if_neg h3]
        rcases k with k | k
        · exact hk _ _ k
        · exact (hk _ _ k).symm
end
end Go.Proofs.YtjbepoofigokjaaGreat
namespace Go.Proofs.YtjbepoofigokjaaGreat
set_option linter.unusedSectionVars false
section
variable {V : Type} [DecidableEq V]
def posG : List V → V → Nat
  | [], _ => 0
  | y :: l, x => if y = x then 0 else posG l x + 1
theorem posG_self {a : List V} {x : V} : posG (x :: a) x = 0 := by unfold posG; rw [if_pos rfl]
theorem posG_ne {a : List V} {x y : V} (h : y ≠ x) : posG (y :: a) x = posG a x + 1 := by conv => lhs; unfold posG
                                                                                          rw [if_neg h]
theorem posG_lt : ∀ {a : List V} {x : V}, x ∈ a → posG a x < a.length
  | y :: a, x, h => by
    by_cases h1 : y = x
    · subst h1; rw [posG_self]; simp
    · rw [posG_ne h1, List.length_cons]
      have := posG_lt ((List.mem_cons.1 h).resolve_left fun e => h1 e.symm)
      omega
theorem posG_app : ∀ {a b : List V} {x : V}, posG (a ++ b) x = if x ∈ a then posG a x else posG b x + a.length
  | [], b, x => by simp
  | y :: a, b, x => by
    rw [List.cons_append]
    by_cases h1 : y = x
    · subst h1; rw [posG_self, posG_self, if_pos (by simp)]
    · rw [posG_ne h1, posG_ne h1, posG_app]
      by_cases h2 : x ∈ a
      · rw [if_pos h2, if_pos (List.mem_cons_of_mem _ h2)]
      · rw [if_neg h2, if_neg, List.length_cons]
        · omega
        · rw [List.mem_cons, not_or]; exact ⟨fun e => h1 e.symm, h2⟩
def distG (rs : List V) : List V := rs.foldl (fun seen r => if r ∈ seen then seen else seen ++ [r]) []
theorem dist_app (rs : List V) (r : V) : distG (rs ++ [r]) = if r ∈ distG rs then distG rs else distG rs ++ [r] := by unfold distG; rw [List.foldl_append]; rfl
theorem dist_snoc {rs : List V} {k : Nat} (h : k < rs.length) : distG (rs.take (k + 1)) = if rs[k] ∈ distG (rs.take k) then distG (rs.take k) else distG (rs.take k) ++ [rs[k]] := by rw [take_snoc' h, dist_app]
theorem dist_inv (rs : List V) : (distG rs).Nodup ∧ ∀ x, x ∈ distG rs ↔ x ∈ rs := by
  refine take_ind (P := fun rs => (distG rs).Nodup ∧ ∀ x, x ∈ distG rs ↔ x ∈ rs) ⟨by simp [distG], fun x => by simp [distG]⟩ (fun l a ⟨h1, h2⟩ => ?_) rs
  rw [dist_app]
  by_cases h : a ∈ distG l
  · rw [if_pos h]
    refine ⟨h1, fun x => ?_⟩
    rw [h2, List.mem_append, List.mem_singleton]
    constructor
    · exact .inl
    · rintro (h3 | rfl)
      · exact h3
      · exact (h2 _).1 h
  · rw [if_neg h]
    refine ⟨?_, fun x => ?_⟩
    · rw [List.nodup_append]
      refine ⟨h1, by simp, fun y hy c hc => ?_⟩
      rw [List.mem_singleton.1 hc]
      rintro rfl
      exact h hy
    · rw [List.mem_append, List.mem_append, h2]
theorem dist_len (rs : List V) : (distG rs).length ≤ rs.length := List.Nodup.length_le_of_subset (dist_inv rs).1 fun x hx => ((dist_inv rs).2 x).1 hx
theorem dist_pre (rs es : List V) : ∃ t, distG (rs ++ es) = distG rs ++ t := by
  refine take_ind (P := fun es => ∃ t, distG (rs ++ es) = distG rs ++ t) ⟨[], by simp⟩ (fun l a ⟨t, ht⟩ => ?_) es
  rw [← List.append_assoc, dist_app, ht]
  by_cases h : a ∈ distG rs ++ t
  · rw [if_pos h]; exact ⟨t, rfl⟩
  · rw [if_neg h]; exact ⟨t ++ [a], by simp⟩
theorem idx_app_mem {a b : List V} {x : V} (h : x ∈ a) : posG (a ++ b) x = posG a x := by rw [posG_app, if_pos h]
theorem idx_none {a : List V} {x : V} (h : x ∉ a) : posG a x = a.length := by
  induction a with
  | nil => rfl
  | cons y a ih =>
    rw [List.mem_cons, not_or] at h
    rw [posG_ne (Ne.symm h.1), ih h.2]; rfl
theorem idx_at {rs : List V} {k : Nat} (h : k < rs.length) : posG (distG rs) rs[k] = posG (distG (rs.take k)) rs[k] := by
  obtain ⟨t, ht⟩ := dist_pre (rs.take (k + 1)) (rs.drop (k + 1))
  rw [List.take_append_drop] at ht
  have hm : rs[k] ∈ distG (rs.take (k + 1)) := ((dist_inv _).2 _).2 (by rw [take_snoc' h]; exact List.mem_append_right _ (by simp))
  rw [ht, idx_app_mem hm, dist_snoc h]
  by_cases h1 : rs[k] ∈ distG (rs.take k)
  · rw [if_pos h1]
  · rw [if_neg h1, idx_none h1, posG_app, if_neg h1, posG_self]; simp
theorem idx_lt {a : List V} {x : V} (hx : x ∈ a) : posG a x < a.length := posG_lt hx
def numG : Int → List V → List (V × Int)
  | _, [] => []
  | n, r :: rs => (r, n) :: numG (n + 1) rs
theorem numG_keys : ∀ (rs : List V) (n : Int), (numG n rs).map (·.1) = rs
  | [], _ => rfl
  | r :: rs, n => by show r :: (numG (n + 1) rs).map (·.1) = _; rw [numG_keys rs]
theorem numG_len (rs : List V) (n : Int) : (numG n rs).length = rs.length := by
  have := congrArg List.length (numG_keys rs n)
  rwa [List.length_map] at this
theorem numG_app : ∀ (a b : List V) (n : Int), numG n (a ++ b) = numG n a ++ numG (n + a.length) b
  | [], b, n => by simp [numG]
  | r :: a, b, n => by
    show (r, n) :: numG (n + 1) (a ++ b) = (r, n) :: (numG (n + 1) a ++ _)
    rw [numG_app a b]
    have : n + 1 + (a.length : Int) = n + ((r :: a).length : Int) := by rw [List.length_cons]; omega
    rw [this]
theorem numG_look : ∀ (rs : List V) (n : Int) (x : V), lookM (numG n rs) x = if x ∈ rs then some (n + (posG rs x : Int)) else none
  | [], n, x => by simp [numG, lookM]
  | r :: rs, n, x => by
    by_cases h : r = x
    · subst h
      rw [if_pos (by simp), posG_self]
      unfold lookM numG
      rw [List.find?_cons_of_pos (by simp)]
      simp
    · have h1 := numG_look rs (n + 1) x
      have e : lookM (numG n (r :: rs)) x = lookM (numG (n + 1) rs) x := by
        unfold lookM
        conv => lhs; unfold numG
        rw [List.find?_cons_of_neg (by simpa using h)]
      rw [e, h1, posG_ne h]
      by_cases h2 : x ∈ rs
      · rw [if_pos h2, if_pos (List.mem_cons_of_mem _ h2)]
        congr 1
        omega
      · rw [if_neg h2, if_neg]
        rw [List.mem_cons, not_or]
        exact ⟨fun h3 => h h3.symm, h2⟩
end
def hdV (s : List Vx) : Vx := s.headD (0, 0)
def edgS (s : List Vx) : List (Vx × Vx) := (s.drop 1).map fun v => (hdV s, v)
def edgC (l : Cx) : List (Vx × Vx) := l.flatMap edgS
def ufC (l : Cx) : List (Vx × Vx) := joinsM [] (edgC l)
def rootC (l : Cx) (s : List Vx) : Vx := repM (ufC l) (hdV s)
def rootsC (l : Cx) : List Vx := l.map (rootC l)
def numC (l : Cx) (s : List Vx) : Nat := posG (distG (rootsC l)) (rootC l s)
def compC (l : Cx) : List Int := l.map fun s => (numC l s : Int)
def partsN (l : Cx) : Nat := (distG (rootsC l)).length
theorem edgC_snoc {l : Cx} {i : Nat} (h : i < l.length) : edgC (l.take (i + 1)) = edgC (l.take i) ++ edgS l[i] := by unfold edgC; rw [take_snoc' h, List.flatMap_append]; simp
theorem edgC_mem {l : Cx} {e : Vx × Vx} : e ∈ edgC l ↔ ∃ f ∈ l, e.1 = hdV f ∧ e.2 ∈ f.drop 1 := by
  unfold edgC edgS
  rw [List.mem_flatMap]
  constructor
  · rintro ⟨f, hf, he⟩
    obtain ⟨v, hv, rfl⟩ := List.mem_map.1 he
    exact ⟨f, hf, rfl, hv⟩
  · rintro ⟨f, hf, h1, h2⟩
    exact ⟨f, hf, List.mem_map.2 ⟨e.2, h2, by rw [← h1]⟩⟩
theorem hd_mem {s : List Vx} (h : 0 < s.length) : hdV s ∈ s := by
  cases s with
  | nil => simp at h
  | cons v s => simp [hdV]
theorem mem_hd {s : List Vx} {v : Vx} (h : v ∈ s) : v = hdV s ∨ v ∈ s.drop 1 := by
  cases s with
  | nil => simp at h
  | cons u s => simpa [hdV] using h
theorem rep_in {l : Cx} {s : List Vx} (hs : s ∈ l) {v : Vx} (hv : v ∈ s) : repM (ufC l) v = rootC l s := by
  rcases mem_hd hv with rfl | h
  · rfl
  · exact ((conn_iff (edgC l) _ _).2 (.step (.refl _) (.inl (edgC_mem.2 ⟨s, hs, rfl, h⟩)))).symm
theorem root_shared {l : Cx} {s t : List Vx} (hs : s ∈ l) (ht : t ∈ l) {v : Vx} (h1 : v ∈ s) (h2 : v ∈ t) : rootC l s = rootC l t := by rw [← rep_in hs h1, rep_in ht h2]
theorem root_mem {l : Cx} {s : List Vx} (hs : s ∈ l) : rootC l s ∈ distG (rootsC l) := ((dist_inv _).2 _).2 (List.mem_map_of_mem hs)
theorem num_lt {l : Cx} {s : List Vx} (hs : s ∈ l) : numC l s < partsN l := idx_lt (root_mem hs)
theorem num_at {l : Cx} {i : Nat} (h : i < l.length) : numC l l[i] = posG (distG ((rootsC l).take i)) (rootC l l[i]) := by
  have := idx_at (rs := rootsC l) (k := i) (by simpa [rootsC] using h)
  simpa [rootsC, numC] using this
end Go.Proofs.YtjbepoofigokjaaGreat
namespace Go.Proofs.YtjbepoofigokjaaGreat
theorem asc_nd {a : List Vx} (h : Asc a) : a.Nodup := List.Pairwise.imp (fun {x y} hxy e => by
  subst e
  have := cmpV_eq.2 (rfl : x = x)
  omega) h
theorem putK_perm (l : List Cl) (x : Cl) : (putK l x).Perm (x :: l) := by
  have h := List.take_append_drop (atK l x l.length) l
  unfold putK
  rw [List.append_assoc]
  have h2 : (List.take (atK l x l.length) l ++ x :: List.drop (atK l x l.length) l).Perm (x :: (List.take (atK l x l.length) l ++ List.drop (atK l x l.length) l)) := List.perm_middle
  rw [h] at h2
  exact h2
theorem foldK_perm : ∀ (m o : List Cl), (m.foldl putK o).Perm (m ++ o)
  | [], _ => List.Perm.refl _
  | x :: m, o => by
    rw [List.foldl_cons]
    refine (foldK_perm m _).trans ?_
    refine ((putK_perm o x).append_left m).trans ?_
    exact List.perm_middle
def SortK (l : List Cl) : Prop := l.Pairwise fun a b => ¬ cmpL b.1 a.1 < 0
def AscK (l : List Cl) : Prop := l.Pairwise fun a b => cmpL a.1 b.1 < 0
theorem cmp_not {a b c : List Vx} (h1 : ¬ cmpL b a < 0) (h2 : ¬ cmpL c b < 0) : ¬ cmpL c a < 0 := fun h => by
  rcases cmpL_cases a b with h3 | h3 | h3
  · exact h2 (cmpL_lt_trans h h3)
  · exact h1 h3
  · subst h3; exact h2 h
theorem cmp_asym {a b : List Vx} (h : cmpL a b < 0) : ¬ cmpL b a < 0 := fun k => by
  have := cmpL_lt_trans h k
  rw [cmpL_irr] at this
  omega
theorem atK_spec (l : List Cl) (x : Cl) : ∀ n, n ≤ l.length → (∀ i (hi : i < l.length), atK l x n ≤ i → i < n → cmpL x.1 l[i].1 < 0) ∧ (atK l x n = 0 ∨ ∃ h : atK l x n - 1 < l.length, ¬ cmpL x.1 (l[atK l x n - 1]'h).1 < 0)
  | 0, _ => ⟨fun i _ _ h => absurd h (Nat.not_lt_zero _), .inl rfl⟩
  | k + 1, hk => by
    have hkl : k < l.length := hk
    have hg : l.getD k ([], []) = l[k] := by rw [List.getD_eq_getElem?_getD, List.getElem?_eq_getElem hkl]; rfl
    by_cases hc : cmpL x.1 l[k].1 < 0
    · have e : atK l x (k + 1) = atK l x k := by
        show (if cmpL x.1 (l.getD k ([], [])).1 < 0 then _ else _) = _
        rw [hg, if_pos hc]
      rw [e]
      obtain ⟨h1, h2⟩ := atK_spec l x k (by omega)
      refine ⟨fun i hi a1 a2 => ?_, h2⟩
      by_cases hik : i = k
      · subst hik; exact hc
      · exact h1 i hi a1 (by omega)
    · have e : atK l x (k + 1) = k + 1 := by
        show (if cmpL x.1 (l.getD k ([], [])).1 < 0 then _ else _) = _
        rw [hg, if_neg hc]
      rw [e]
      exact ⟨fun i _ a1 a2 => by omega, .inr ⟨hkl, hc⟩⟩
theorem putK_sort {l : List Cl} (h : SortK l) (x : Cl) : SortK (putK l x) := by
  obtain ⟨h1, h2⟩ := atK_spec l x l.length (Nat.le_refl _)
  have hle := atK_le l x l.length
  unfold putK SortK
  generalize atK l x l.length = k at *
  unfold SortK at h
  rw [List.append_assoc, List.pairwise_append]
  have hd : ∀ b ∈ l.drop k, cmpL x.1 b.1 < 0 := fun b hb => by
    obtain ⟨i, hi, rfl⟩ := List.mem_iff_getElem.1 hb
    rw [List.getElem_drop]
    rw [List.length_drop] at hi
    exact h1 _ (by omega) (by omega) (by omega)
  have ht : ∀ a ∈ l.take k, ¬ cmpL x.1 a.1 < 0 := fun a ha => by
    obtain ⟨i, hi, rfl⟩ := List.mem_iff_getElem.1 ha
    rw [List.length_take] at hi
    rw [List.getElem_take]
    rcases h2 with h2 | ⟨h3, h4⟩
    · omega
    · by_cases hik : i = k - 1
      · subst hik; exact h4
      · exact cmp_not (List.pairwise_iff_getElem.1 h i (k - 1) (by omega) h3 (by omega)) h4
  refine ⟨h.sublist (List.take_sublist _ _), ?_, fun a ha b hb => ?_⟩
  · show List.Pairwise _ (x :: l.drop k)
    rw [List.pairwise_cons]
    exact ⟨fun b hb => cmp_asym (hd b hb), h.sublist (List.drop_sublist _ _)⟩
  · have hb' : b = x ∨ b ∈ l.drop k := by simpa using hb
    rcases hb' with rfl | hb'
    · exact ht a ha
    · exact cmp_not (ht a ha) (cmp_asym (hd b hb'))
theorem foldK_sort : ∀ (m : List Cl) {o : List Cl}, SortK o → SortK (m.foldl putK o)
  | [], _, h => h
  | x :: m, _, h => by rw [List.foldl_cons]; exact foldK_sort m (putK_sort h x)
theorem rowK_mem {l : Cx} {f : List Vx} {t : Cx} {x : Cl} : x ∈ rowK l f t ↔ x.2 = f ∧ x.1 ∈ t ∧ abvC l x.1 = 1 := by
  unfold rowK
  rw [List.mem_map]
  constructor
  · rintro ⟨s, hs, rfl⟩
    rw [List.mem_filter] at hs
    exact ⟨rfl, hs.1, of_decide_eq_true hs.2⟩
  · rintro ⟨rfl, h1, h2⟩
    exact ⟨x.1, List.mem_filter.2 ⟨h1, decide_eq_true h2⟩, rfl⟩
theorem pairs_mem {l : Cx} {x : Cl} : x ∈ pairsC l ↔ x.2 ∈ l ∧ x.2.length ≠ 1 ∧ x.1 ∈ subsV (x.2.length - 1) x.2 ∧ abvC l x.1 = 1 := by
  unfold pairsC prK
  rw [(foldK_perm _ _).mem_iff, List.append_nil, List.mem_flatMap]
  constructor
  · rintro ⟨f, hf, hx⟩
    unfold offK at hx
    split at hx
    · cases hx
    · next h =>
      obtain ⟨rfl, h1, h2⟩ := rowK_mem.1 hx
      exact ⟨hf, h, h1, h2⟩
  · rintro ⟨h1, h2, h3, h4⟩
    refine ⟨x.2, h1, ?_⟩
    unfold offK
    rw [if_neg h2]
    exact rowK_mem.2 ⟨rfl, h3, h4⟩
theorem abv_one {l : Cx} {t : List Vx} (h : abvC l t = 1) {f g : List Vx} (hf : f ∈ l) (hg : g ∈ l) (h1 : insideV t f = true) (h2 : insideV t g = true) : f = g := by
  unfold abvC at h
  obtain ⟨a, ha⟩ := List.length_eq_one_iff.1 h
  have h3 : f ∈ l.filter fun f => insideV t f := List.mem_filter.2 ⟨hf, h1⟩
  have h4 : g ∈ l.filter fun f => insideV t f := List.mem_filter.2 ⟨hg, h2⟩
  rw [ha, List.mem_singleton] at h3 h4
  rw [h3, h4]
structure PairOk (l : Cx) (x : Cl) : Prop where
  mem : x.2 ∈ l
  chk2 : chkV x.2 = 0
  chk1 : chkV x.1 = 0
  sub : x.1.Sublist x.2
  len : x.1.length + 1 = x.2.length
  one : ∀ f ∈ l, insideV x.1 f = true → f = x.2
theorem pair_ok {l : Cx} (G : GoodX l) {x : Cl} (hx : x ∈ pairsC l) : PairOk l x := by
  obtain ⟨h1, h2, h3, h4⟩ := pairs_mem.1 hx
  have hc := G.2.2.1 _ h1
  obtain ⟨l1, l2⟩ := chk_len hc
  obtain ⟨k1, k2, k3⟩ := face_good hc (by omega) h3
  have ha2 := G.asc _ h1
  exact ⟨h1, hc, k1, k2, by omega, fun f hf hi => abv_one h4 hf h1 hi ((sub_inside (chkV_zero.1 k1).2.2.2 ha2).1 k2)⟩
theorem left_has {l : Cx} (G : GoodX l) {x : Cl} (hx : PairOk l x) {t : List Vx} (ht : Asc t) : hasC' (leftC l x) t = true ↔ hasC' l t = true ∧ t ≠ x.1 ∧ t ≠ x.2 := by
  obtain ⟨m2, c2, c1, sb, ln, one⟩ := hx
  have a2 := G.asc _ m2
  have a1 := (chkV_zero.1 c1).2.2.2
  have p1 := chk_len c1
  have i12 : insideV x.1 x.2 = true := (sub_inside a1 a2).1 sb
  unfold leftC
  rw [max_has fun s hs => by
    rcases List.mem_append.1 hs with hs | hs
    · exact G.2.2.1 _ (List.mem_filter.1 hs).1
    · exact (face_good c2 (by omega) (List.mem_filter.1 hs).1).1]
  rw [hasC_iff, hasC_iff]
  constructor
  · rintro ⟨f, hf, hi⟩
    rcases List.mem_append.1 hf with hf | hf
    · obtain ⟨f1, f2⟩ := List.mem_filter.1 hf
      have f2 := of_decide_eq_true f2
      refine ⟨⟨f, f1, hi⟩, ?_, ?_⟩
      · rintro rfl
        exact f2 (one f f1 hi)
      · rintro rfl
        exact f2 (inside_anti G m2 f1 hi).symm
    · obtain ⟨f1, f2⟩ := List.mem_filter.1 hf
      have f2 := of_decide_eq_true f2
      obtain ⟨q1, q2, q3⟩ := face_good c2 (by omega) f1
      have af := (chkV_zero.1 q1).2.2.2
      refine ⟨⟨x.2, m2, inside_trans hi ((sub_inside af a2).1 q2)⟩, ?_, ?_⟩
      · rintro rfl
        by_cases he : x.1 = f
        · exact f2 he.symm
        · have := inside_lt a1 af hi he
          omega
      · rintro rfl
        have := inside_le a2 af hi
        omega
  · rintro ⟨⟨f, hf, hi⟩, n1, n2⟩
    by_cases hfx : f = x.2
    · subst hfx
      have hlt := inside_lt ht a2 hi n2
      by_cases hex : ∃ v ∈ x.2, v ∉ t ∧ v ∈ x.1
      · obtain ⟨v, v1, v2, v3⟩ := hex
        have nd := asc_nd a2
        have hu : x.2.erase v ∈ subsV (x.2.length - 1) x.2 := (subsV_mem _ _ _).2 ⟨List.erase_sublist, List.length_erase_of_mem v1⟩
        refine ⟨x.2.erase v, List.mem_append.2 (.inr (List.mem_filter.2 ⟨hu, decide_eq_true fun he => ?_⟩)), inside_mem.2 fun y hy => ?_⟩
        · rw [← he] at v3
          exact (nd.mem_erase_iff.1 v3).1 rfl
        · exact nd.mem_erase_iff.2 ⟨fun e => v2 (e ▸ hy), inside_mem.1 hi y hy⟩
      · have h3 : insideV x.1 t = true := inside_mem.2 fun y hy => Classical.byContradiction fun hn => hex ⟨y, inside_mem.1 i12 y hy, hn, hy⟩
        have := inside_lt a1 ht h3 (fun e => n1 e.symm)
        omega
    · exact ⟨f, List.mem_append.2 (.inl (List.mem_filter.2 ⟨hf, decide_eq_true hfx⟩)), hi⟩
theorem left_src {l : Cx} (G : GoodX l) {x : Cl} (hx : PairOk l x) : ∀ s ∈ (l.filter fun f => decide (f ≠ x.2)) ++ (subsV (x.2.length - 1) x.2).filter (fun t => decide (t ≠ x.1)), chkV s = 0 := fun s hs => by
  have p1 := chk_len hx.chk1
  have ln := hx.len
  rcases List.mem_append.1 hs with hs | hs
  · exact G.2.2.1 _ (List.mem_filter.1 hs).1
  · exact (face_good hx.chk2 (by omega) (List.mem_filter.1 hs).1).1
theorem left_chk {l : Cx} (G : GoodX l) {x : Cl} (hx : PairOk l x) : ∀ s ∈ leftC l x, chkV s = 0 := fun s hs => left_src G hx s (maxC_mem.1 hs).1
theorem left_all {l : Cx} (G : GoodX l) {x : Cl} (hx : PairOk l x) (k : Nat) : allC (leftC l x) k = (allC l k).filter fun t => decide (t ≠ x.1) && decide (t ≠ x.2) := by
  refine ascL_ext (allC_asc _ _) ((allC_asc _ _).sublist List.filter_sublist) fun t => ?_
  rw [List.mem_filter, all_iff (fun s hs => (chkV_zero.1 (left_chk G hx s hs)).2.2.2), all_iff G.asc]
  constructor
  · rintro ⟨h1, h2, h3⟩
    obtain ⟨q1, q2, q3⟩ := (left_has G hx h1).1 h3
    exact ⟨⟨h1, h2, q1⟩, by rw [decide_eq_true q2, decide_eq_true q3]; rfl⟩
  · rintro ⟨⟨h1, h2, h3⟩, h4⟩
    rw [Bool.and_eq_true, decide_eq_true_eq, decide_eq_true_eq] at h4
    exact ⟨h1, h2, (left_has G hx h1).2 ⟨h3, h4.1, h4.2⟩⟩
theorem count_out {α : Type} [DecidableEq α] {l : List α} (hn : l.Nodup) {a b : α} (hab : a ≠ b) : (l.filter fun t => decide (t ≠ a) && decide (t ≠ b)).length + (if a ∈ l then 1 else 0) + (if b ∈ l then 1 else 0) = l.length := by
  induction l with
  | nil => rfl
  | cons c l ih =>
    rw [List.nodup_cons] at hn
    have h := ih hn.2
    by_cases h1 : c = a
    · subst h1
      rw [List.filter_cons_of_neg (by simp), if_pos (List.mem_cons_self ..), List.length_cons]
      rw [if_neg hn.1] at h
      have e : (b ∈ c :: l) ↔ b ∈ l := by rw [List.mem_cons]; exact ⟨fun q => q.resolve_left fun q => hab q.symm, .inr⟩
      by_cases hb : b ∈ l
      · rw [if_pos (e.2 hb)]; rw [if_pos hb] at h; omega
      · rw [if_neg fun q => hb (e.1 q)]; rw [if_neg hb] at h; omega
    · by_cases h2 : c = b
      · subst h2
        rw [List.filter_cons_of_neg (by simp), if_pos (List.mem_cons_self ..), List.length_cons]
        rw [if_neg hn.1] at h
        have e : (a ∈ c :: l) ↔ a ∈ l := by rw [List.mem_cons]; exact ⟨fun q => q.resolve_left hab, .inr⟩
        by_cases ha : a ∈ l
        · rw [if_pos (e.2 ha)]; rw [if_pos ha] at h; omega
        · rw [if_neg fun q => ha (e.1 q)]; rw [if_neg ha] at h; omega
      · rw [List.filter_cons_of_pos (by simp [h1, h2]), List.length_cons, List.length_cons]
        have e1 : (a ∈ c :: l) ↔ a ∈ l := by rw [List.mem_cons]; exact ⟨fun q => q.resolve_left fun q => h1 q.symm, .inr⟩
        have e2 : (b ∈ c :: l) ↔ b ∈ l := by rw [List.mem_cons]; exact ⟨fun q => q.resolve_left fun q => h2 q.symm, .inr⟩
        simp only [e1, e2]
        omega
theorem left_len {l : Cx} (G : GoodX l) {x : Cl} (hx : PairOk l x) (k : Nat) : (allC (leftC l x) k).length + (if k = x.1.length then 1 else 0) + (if k = x.2.length then 1 else 0) = (allC l k).length := by
  have hne : x.1 ≠ x.2 := fun e => by have := hx.len; rw [e] at this; omega
  have a2 := (chkV_zero.1 hx.chk2).2.2.2
  have a1 := (chkV_zero.1 hx.chk1).2.2.2
  have h := count_out (allC_asc l k).nodup hne
  rw [← left_all G hx] at h
  have e1 : (x.1 ∈ allC l k) ↔ k = x.1.length := by
    rw [all_iff G.asc]
    exact ⟨fun q => q.2.1.symm, fun q => ⟨a1, q.symm, hasC_iff.2 ⟨x.2, hx.mem, (sub_inside a1 a2).1 hx.sub⟩⟩⟩
  have e2 : (x.2 ∈ allC l k) ↔ k = x.2.length := by
    rw [all_iff G.asc]
    exact ⟨fun q => q.2.1.symm, fun q => ⟨a2, q.symm, hasC_iff.2 ⟨x.2, hx.mem, inside_self _⟩⟩⟩
  simp only [e1, e2] at h
  exact h
def wholeN (l : Cx) (k : Nat) : Nat := ((List.range k).map fun i => (allC l (i + 1)).length).sum
theorem wholeN_succ (l : Cx) (k : Nat) : wholeN l (k + 1) = wholeN l k + (allC l (k + 1)).length := by
  unfold wholeN
  rw [List.range_succ, List.map_append, List.sum_append]
  simp
theorem wholeN_up (l : Cx) : ∀ k, (upC l k).length = wholeN l k
  | 0 => rfl
  | k + 1 => by
    rw [wholeN_succ, ← wholeN_up l k]
    show (upC l k ++ allC l (k + 1)).length = _
    rw [List.length_append]
theorem few_whole {l : Cx} (hl : AscL l) (hc : ∀ s ∈ l, chkV s = 0) : l.length ≤ wholeN l 8 := by
  rw [← wholeN_up]
  refine List.Nodup.length_le_of_subset hl.nodup fun s hs => upC_mem.2 ⟨s.length, ?_, ?_, allC_mem.2 ⟨s, hs, (subsV_mem _ _ _).2 ⟨List.Sublist.refl _, rfl⟩⟩⟩
  · exact (chk_len (hc s hs)).1
  · exact (chk_len (hc s hs)).2
theorem left_whole {l : Cx} (G : GoodX l) {x : Cl} (hx : PairOk l x) : ∀ n, wholeN (leftC l x) n + (if x.1.length ≤ n then 1 else 0) + (if x.2.length ≤ n then 1 else 0) = wholeN l n
  | 0 => by
    have h1 := chk_len hx.chk1
    have h2 := chk_len hx.chk2
    rw [if_neg (by omega), if_neg (by omega)]
    rfl
  | n + 1 => by
    have h := left_whole G hx n
    have k := left_len G hx (n + 1)
    have ln := hx.len
    rw [wholeN_succ, wholeN_succ]
    by_cases a : n + 1 = x.1.length
    · rw [if_pos a, if_neg (by omega)] at k
      rw [if_neg (by omega), if_neg (by omega)] at h
      rw [if_pos (by omega), if_neg (by omega)]
      omega
    · by_cases b : n + 1 = x.2.length
      · rw [if_neg a, if_pos b] at k
        rw [if_pos (by omega), if_neg (by omega)] at h
        rw [if_pos (by omega), if_pos (by omega)]
        omega
      · rw [if_neg a, if_neg b] at k
        by_cases c : x.1.length ≤ n
        · rw [if_pos c, if_pos (by omega)] at h
          rw [if_pos (by omega), if_pos (by omega)]
          omega
        · rw [if_neg c, if_neg (by omega)] at h
          rw [if_neg (by omega), if_neg (by omega)]
          omega
theorem left_two {l : Cx} (G : GoodX l) {x : Cl} (hx : PairOk l x) : wholeN (leftC l x) 8 + 2 = wholeN l 8 := by
  have h := left_whole G hx 8
  rw [if_pos (chk_len hx.chk1).2, if_pos (chk_len hx.chk2).2] at h
  omega
theorem left_good {l : Cx} (G : GoodX l) {x : Cl} (hx : PairOk l x) (hw : wholeN l 8 ≤ 4098) : GoodX (leftC l x) := by
  refine good_max (fun s hs _ => left_src G hx s hs) ?_
  have h1 := few_whole (maxC_asc _) (left_chk G hx)
  have h2 := left_two G hx
  unfold leftC at h1 h2
  omega
def redC : Nat → Cx → Cx × List Cl
  | 0, l => (l, [])
  | n + 1, l => match pairsC l with
    | [] => (l, [])
    | x :: _ => ((redC n (leftC l x)).1, x :: (redC n (leftC l x)).2)
theorem redC_nil {l : Cx} (h : pairsC l = []) : ∀ n, redC n l = (l, [])
  | 0 => rfl
  | n + 1 => by unfold redC; rw [h]
theorem redC_cons {l : Cx} {x : Cl} {t : List Cl} (h : pairsC l = x :: t) (n : Nat) : redC (n + 1) l = ((redC n (leftC l x)).1, x :: (redC n (leftC l x)).2) := by
  show (match pairsC l with | [] => (l, []) | x :: _ => ((redC n (leftC l x)).1, x :: (redC n (leftC l x)).2)) = _
  rw [h]
def reducedC (l : Cx) : Cx × List Cl := redC 4096 l
end Go.Proofs.YtjbepoofigokjaaGreat
