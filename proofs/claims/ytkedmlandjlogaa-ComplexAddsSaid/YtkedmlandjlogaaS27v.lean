/-
  Components, plain law: numbers by first appearance of the roots; what falls to one number is a complex of one component; the characteristics add up.
-/
import Derived.Test.YtkedmlandjlogaaS27u
import Derived.Test.YtkedmlandjlogaaS27g
namespace Go.Proofs.Ytkedmlandjlogaa
/-! numbers by first appearance -/
set_option linter.unusedSectionVars false
section
variable {V : Type} [DecidableEq V]
def posG : List V → V → Nat
  | [], _ => 0
  | y :: l, x => if y = x then 0 else posG l x + 1
theorem posG_self {a : List V} {x : V} : posG (x :: a) x = 0 := by unfold posG; rw [if_pos rfl]
theorem posG_ne {a : List V} {x y : V} (h : y ≠ x) : posG (y :: a) x = posG a x + 1 := by conv => lhs; unfold posG
                                                                                          rw [if_neg h]
theorem posG_lt : ∀ {a : List V} {x : V}, x ∈ a → posG a x < a.length
  | y :: a, x, h => by
    by_cases h1 : y = x
    · subst h1; rw [posG_self]; simp
    · rw [posG_ne h1, List.length_cons]
      have := posG_lt ((List.mem_cons.1 h).resolve_left fun e => h1 e.symm)
      omega
theorem posG_app : ∀ {a b : List V} {x : V}, posG (a ++ b) x = if x ∈ a then posG a x else posG b x + a.length
  | [], b, x => by simp
  | y :: a, b, x => by
    rw [List.cons_append]
    by_cases h1 : y = x
    · subst h1; rw [posG_self, posG_self, if_pos (by simp)]
    · rw [posG_ne h1, posG_ne h1, posG_app]
      by_cases h2 : x ∈ a
      · rw [if_pos h2, if_pos (List.mem_cons_of_mem _ h2)]
      · rw [if_neg h2, if_neg, List.length_cons]
        · omega
        · rw [List.mem_cons, not_or]; exact ⟨fun e => h1 e.symm, h2⟩
def distG (rs : List V) : List V := rs.foldl (fun seen r => if r ∈ seen then seen else seen ++ [r]) []
theorem dist_app (rs : List V) (r : V) : distG (rs ++ [r]) = if r ∈ distG rs then distG rs else distG rs ++ [r] := by unfold distG; rw [List.foldl_append]; rfl
theorem dist_snoc {rs : List V} {k : Nat} (h : k < rs.length) : distG (rs.take (k + 1)) = if rs[k] ∈ distG (rs.take k) then distG (rs.take k) else distG (rs.take k) ++ [rs[k]] := by rw [take_snoc' h, dist_app]
theorem dist_inv (rs : List V) : (distG rs).Nodup ∧ ∀ x, x ∈ distG rs ↔ x ∈ rs := by
  refine take_ind (P := fun rs => (distG rs).Nodup ∧ ∀ x, x ∈ distG rs ↔ x ∈ rs) ⟨by simp [distG], fun x => by simp [distG]⟩ (fun l a ⟨h1, h2⟩ => ?_) rs
  rw [dist_app]
  by_cases h : a ∈ distG l
  · rw [if_pos h]
    refine ⟨h1, fun x => ?_⟩
    rw [h2, List.mem_append, List.mem_singleton]
    constructor
    · exact .inl
    · rintro (h3 | rfl)
      · exact h3
      · exact (h2 _).1 h
  · rw [if_neg h]
    refine ⟨?_, fun x => ?_⟩
    · rw [List.nodup_append]
      refine ⟨h1, by simp, fun y hy c hc => ?_⟩
      rw [List.mem_singleton.1 hc]
      rintro rfl
      exact h hy
    · rw [List.mem_append, List.mem_append, h2]
theorem dist_len (rs : List V) : (distG rs).length ≤ rs.length := List.Nodup.length_le_of_subset (dist_inv rs).1 fun x hx => ((dist_inv rs).2 x).1 hx
theorem dist_pre (rs es : List V) : ∃ t, distG (rs ++ es) = distG rs ++ t := by
  refine take_ind (P := fun es => ∃ t, distG (rs ++ es) = distG rs ++ t) ⟨[], by simp⟩ (fun l a ⟨t, ht⟩ => ?_) es
  rw [← List.append_assoc, dist_app, ht]
  by_cases h : a ∈ distG rs ++ t
  · rw [if_pos h]; exact ⟨t, rfl⟩
  · rw [if_neg h]; exact ⟨t ++ [a], by simp⟩
theorem idx_app_mem {a b : List V} {x : V} (h : x ∈ a) : posG (a ++ b) x = posG a x := by rw [posG_app, if_pos h]
theorem idx_none {a : List V} {x : V} (h : x ∉ a) : posG a x = a.length := by
  induction a with
  | nil => rfl
  | cons y a ih =>
    rw [List.mem_cons, not_or] at h
    rw [posG_ne (Ne.symm h.1), ih h.2]; rfl
/-- the number of an element is settled when it first comes -/
theorem idx_at {rs : List V} {k : Nat} (h : k < rs.length) : posG (distG rs) rs[k] = posG (distG (rs.take k)) rs[k] := by
  obtain ⟨t, ht⟩ := dist_pre (rs.take (k + 1)) (rs.drop (k + 1))
  rw [List.take_append_drop] at ht
  have hm : rs[k] ∈ distG (rs.take (k + 1)) := ((dist_inv _).2 _).2 (by rw [take_snoc' h]; exact List.mem_append_right _ (by simp))
  rw [ht, idx_app_mem hm, dist_snoc h]
  by_cases h1 : rs[k] ∈ distG (rs.take k)
  · rw [if_pos h1]
  · rw [if_neg h1, idx_none h1, posG_app, if_neg h1, posG_self]; simp
theorem idx_inj {a : List V} {x y : V} (hx : x ∈ a) (h : posG a x = posG a y) : x = y := by
  induction a with
  | nil => simp at hx
  | cons z a ih =>
    by_cases h1 : z = x
    · subst h1
      rw [posG_self] at h
      by_cases h2 : z = y
      · exact h2
      · rw [posG_ne h2] at h; omega
    · rw [posG_ne h1] at h
      by_cases h2 : z = y
      · subst h2
        rw [posG_self] at h; omega
      · rw [posG_ne h2] at h
        rcases List.mem_cons.1 hx with hx | hx
        · exact absurd hx.symm h1
        · exact ih hx (by omega)
theorem idx_lt {a : List V} {x : V} (hx : x ∈ a) : posG a x < a.length := posG_lt hx
/-- the map from roots to numbers -/
def numG : Int → List V → List (V × Int)
  | _, [] => []
  | n, r :: rs => (r, n) :: numG (n + 1) rs
theorem numG_keys : ∀ (rs : List V) (n : Int), (numG n rs).map (·.1) = rs
  | [], _ => rfl
  | r :: rs, n => by show r :: (numG (n + 1) rs).map (·.1) = _; rw [numG_keys rs]
theorem numG_len (rs : List V) (n : Int) : (numG n rs).length = rs.length := by
  have := congrArg List.length (numG_keys rs n)
  rwa [List.length_map] at this
theorem numG_app : ∀ (a b : List V) (n : Int), numG n (a ++ b) = numG n a ++ numG (n + a.length) b
  | [], b, n => by simp [numG]
  | r :: a, b, n => by
    show (r, n) :: numG (n + 1) (a ++ b) = (r, n) :: (numG (n + 1) a ++ _)
    rw [numG_app a b]
    have : n + 1 + (a.length : Int) = n + ((r :: a).length : Int) := by rw [List.length_cons]; omega
    rw [this]
theorem numG_look : ∀ (rs : List V) (n : Int) (x : V), lookM (numG n rs) x = if x ∈ rs then some (n + (posG rs x : Int)) else none
  | [], n, x => by simp [numG, lookM]
  | r :: rs, n, x => by
    by_cases h : r = x
    · subst h
      rw [if_pos (by simp), posG_self]
      unfold lookM numG
      rw [List.find?_cons_of_pos (by simp)]
      simp
    · have h1 := numG_look rs (n + 1) x
      have e : lookM (numG n (r :: rs)) x = lookM (numG (n + 1) rs) x := by
        unfold lookM
        conv => lhs; unfold numG
        rw [List.find?_cons_of_neg (by simpa using h)]
      rw [e, h1, posG_ne h]
      by_cases h2 : x ∈ rs
      · rw [if_pos h2, if_pos (List.mem_cons_of_mem _ h2)]
        congr 1
        omega
      · rw [if_neg h2, if_neg]
        rw [List.mem_cons, not_or]
        exact ⟨fun h3 => h h3.symm, h2⟩
end
/-! components -/
def hdV (s : List Vx) : Vx := s.headD (0, 0)
def edgS (s : List Vx) : List (Vx × Vx) := (s.drop 1).map fun v => (hdV s, v)
def edgC (l : Cx) : List (Vx × Vx) := l.flatMap edgS
def ufC (l : Cx) : List (Vx × Vx) := joinsM [] (edgC l)
def rootC (l : Cx) (s : List Vx) : Vx := repM (ufC l) (hdV s)
def rootsC (l : Cx) : List Vx := l.map (rootC l)
def numC (l : Cx) (s : List Vx) : Nat := posG (distG (rootsC l)) (rootC l s)
def compC (l : Cx) : List Int := l.map fun s => (numC l s : Int)
def partsN (l : Cx) : Nat := (distG (rootsC l)).length
theorem edgC_snoc {l : Cx} {i : Nat} (h : i < l.length) : edgC (l.take (i + 1)) = edgC (l.take i) ++ edgS l[i] := by unfold edgC; rw [take_snoc' h, List.flatMap_append]; simp
theorem edgC_mem {l : Cx} {e : Vx × Vx} : e ∈ edgC l ↔ ∃ f ∈ l, e.1 = hdV f ∧ e.2 ∈ f.drop 1 := by
  unfold edgC edgS
  rw [List.mem_flatMap]
  constructor
  · rintro ⟨f, hf, he⟩
    obtain ⟨v, hv, rfl⟩ := List.mem_map.1 he
    exact ⟨f, hf, rfl, hv⟩
  · rintro ⟨f, hf, h1, h2⟩
    exact ⟨f, hf, List.mem_map.2 ⟨e.2, h2, by rw [← h1]⟩⟩
theorem hd_mem {s : List Vx} (h : 0 < s.length) : hdV s ∈ s := by
  cases s with
  | nil => simp at h
  | cons v s => simp [hdV]
theorem mem_hd {s : List Vx} {v : Vx} (h : v ∈ s) : v = hdV s ∨ v ∈ s.drop 1 := by
  cases s with
  | nil => simp at h
  | cons u s => simpa [hdV] using h
theorem rep_in {l : Cx} {s : List Vx} (hs : s ∈ l) {v : Vx} (hv : v ∈ s) : repM (ufC l) v = rootC l s := by
  rcases mem_hd hv with rfl | h
  · rfl
  · exact ((conn_iff (edgC l) _ _).2 (.step (.refl _) (.inl (edgC_mem.2 ⟨s, hs, rfl, h⟩)))).symm
theorem root_shared {l : Cx} {s t : List Vx} (hs : s ∈ l) (ht : t ∈ l) {v : Vx} (h1 : v ∈ s) (h2 : v ∈ t) : rootC l s = rootC l t := by rw [← rep_in hs h1, rep_in ht h2]
theorem root_mem {l : Cx} {s : List Vx} (hs : s ∈ l) : rootC l s ∈ distG (rootsC l) := ((dist_inv _).2 _).2 (List.mem_map_of_mem hs)
theorem num_root {l : Cx} {s t : List Vx} (hs : s ∈ l) (h : numC l s = numC l t) : rootC l s = rootC l t := idx_inj (root_mem hs) h
theorem num_shared {l : Cx} {s t : List Vx} (hs : s ∈ l) (ht : t ∈ l) {v : Vx} (h1 : v ∈ s) (h2 : v ∈ t) : numC l s = numC l t := by unfold numC; rw [root_shared hs ht h1 h2]
theorem num_lt {l : Cx} {s : List Vx} (hs : s ∈ l) : numC l s < partsN l := idx_lt (root_mem hs)
theorem num_at {l : Cx} {i : Nat} (h : i < l.length) : numC l l[i] = posG (distG ((rootsC l).take i)) (rootC l l[i]) := by
  have := idx_at (rs := rootsC l) (k := i) (by simpa [rootsC] using h)
  simpa [rootsC, numC] using this
theorem num_le {l : Cx} {i : Nat} (h : i < l.length) : numC l l[i] ≤ (distG ((rootsC l).take i)).length := by
  rw [num_at h]
  by_cases h1 : rootC l l[i] ∈ distG ((rootsC l).take i)
  · exact Nat.le_of_lt (idx_lt h1)
  · rw [idx_none h1]; exact Nat.le_refl _
/-- the facets of one number -/
def partC (l : Cx) (j : Nat) : Cx := l.filter fun s => decide (numC l s = j)
/-- a way within the facets of one root -/
theorem conn_part {l p : Cx} {u w : Vx} (h : Conn (edgC l) u w) (hp : ∀ f ∈ l, rootC l f = repM (ufC l) u → f ∈ p) : Conn (edgC p) u w := by
  induction h with
  | refl => exact .refl _
  | step h e ih =>
    rename_i v w
    have h1 := (conn_iff (edgC l) _ _).2 h
    refine ih.step ?_
    rcases e with e | e
    · obtain ⟨f, hf, e1, e2⟩ := edgC_mem.1 e
      refine .inl (edgC_mem.2 ⟨f, hp f hf ?_, e1, e2⟩)
      show repM (ufC l) (hdV f) = _
      rw [← (show v = hdV f from e1)]
      exact h1.symm
    · obtain ⟨f, hf, e1, e2⟩ := edgC_mem.1 e
      refine .inr (edgC_mem.2 ⟨f, hp f hf ?_, e1, e2⟩)
      have e3 : v ∈ f := List.mem_of_mem_drop e2
      rw [← rep_in hf e3]
      exact h1.symm
theorem part_one {l : Cx} {j : Nat} {s t : List Vx} (hs : s ∈ partC l j) (ht : t ∈ partC l j) : rootC (partC l j) s = rootC (partC l j) t := by
  obtain ⟨hs1, hs2⟩ := List.mem_filter.1 hs
  obtain ⟨ht1, ht2⟩ := List.mem_filter.1 ht
  have hs2 := of_decide_eq_true hs2
  have ht2 := of_decide_eq_true ht2
  have h1 : rootC l s = rootC l t := num_root hs1 (by rw [hs2, ht2])
  have h2 := (conn_iff (edgC l) (hdV s) (hdV t)).1 h1
  refine (conn_iff (edgC (partC l j)) (hdV s) (hdV t)).2 (conn_part h2 fun f hf hr => ?_)
  refine List.mem_filter.2 ⟨hf, decide_eq_true ?_⟩
  have : rootC l f = rootC l s := hr
  unfold numC at hs2 ⊢
  rw [this]; exact hs2
theorem one_num {l : Cx} (h : ∀ s ∈ l, ∀ t ∈ l, rootC l s = rootC l t) {s : List Vx} (hs : s ∈ l) : numC l s = 0 := by
  have hm := root_mem hs
  unfold numC
  have hi := dist_inv (rootsC l)
  generalize distG (rootsC l) = D at hm hi
  cases D with
  | nil => simp at hm
  | cons r D =>
    have hr : r ∈ rootsC l := (hi.2 r).1 (by simp)
    obtain ⟨t, ht, rfl⟩ := List.mem_map.1 hr
    rw [h s hs t ht, posG_self]
theorem part_zero (l : Cx) (j : Nat) : ∀ n ∈ compC (partC l j), n = 0 := fun n hn => by
  obtain ⟨s, hs, rfl⟩ := List.mem_map.1 hn
  rw [one_num (fun s hs t ht => part_one hs ht) hs]; rfl
theorem Gd.part {l : Cx} (h : Gd l) (j : Nat) : Gd (partC l j) :=
  ⟨good_sub h.good List.filter_sublist, Nat.le_trans (List.length_filter_le _ _) h.few, fun s hs => h.five s (List.mem_filter.1 hs).1⟩
/-! the characteristics -/
theorem all_part {l : Cx} (hl : ∀ s ∈ l, Asc s) (k j : Nat) : allC (partC l j) (k + 1) = (allC l (k + 1)).filter fun x => decide (posG (distG (rootsC l)) (repM (ufC l) (hdV x)) = j) := by
  refine ascL_ext (allC_asc _ _) (List.Pairwise.filter _ (allC_asc _ _)) fun x => ?_
  rw [List.mem_filter, all_iff (l := partC l j) fun s hs => hl s (List.mem_filter.1 hs).1, all_iff hl, decide_eq_true_iff]
  have key : ∀ f ∈ l, x.length = k + 1 → insideV x f = true → numC l f = posG (distG (rootsC l)) (repM (ufC l) (hdV x)) := fun f hf hx hi => by
    have := rep_in hf (inside_mem.1 hi _ (hd_mem (s := x) (by omega)))
    unfold numC
    rw [this]
  constructor
  · rintro ⟨h1, h2, h3⟩
    obtain ⟨f, hf, hi⟩ := hasC_iff.1 h3
    obtain ⟨hf, hj⟩ := List.mem_filter.1 hf
    exact ⟨⟨h1, h2, hasC_iff.2 ⟨f, hf, hi⟩⟩, by rw [← key f hf h2 hi]; exact of_decide_eq_true hj⟩
  · rintro ⟨⟨h1, h2, h3⟩, h4⟩
    obtain ⟨f, hf, hi⟩ := hasC_iff.1 h3
    exact ⟨h1, h2, hasC_iff.2 ⟨f, List.mem_filter.2 ⟨hf, decide_eq_true ((key f hf h2 hi).trans h4)⟩, hi⟩⟩
def sumR (n : Nat) (f : Nat → Int) : Int := ((List.range n).map f).sum
theorem sumR_succ (n : Nat) (f : Nat → Int) : sumR (n + 1) f = sumR n f + f n := by unfold sumR; rw [List.range_succ, List.map_append, List.sum_append]; simp
theorem sumR_add (n : Nat) (f g : Nat → Int) : sumR n (fun j => f j + g j) = sumR n f + sumR n g := by
  induction n with
  | zero => rfl
  | succ n ih => rw [sumR_succ, sumR_succ, sumR_succ, ih]; omega
theorem sumR_sub (n : Nat) (f g : Nat → Int) : sumR n (fun j => f j - g j) = sumR n f - sumR n g := by
  induction n with
  | zero => rfl
  | succ n ih => rw [sumR_succ, sumR_succ, sumR_succ, ih]; omega
theorem sumR_zero (n : Nat) : sumR n (fun _ => 0) = 0 := by
  induction n with
  | zero => rfl
  | succ n ih => rw [sumR_succ, ih]; rfl
theorem len_two {α : Type} (g : α → Nat) (n : Nat) : ∀ L : List α, ((L.filter fun x => decide (g x < n)).length : Int) + ((L.filter fun x => decide (g x = n)).length : Int) = ((L.filter fun x => decide (g x < n + 1)).length : Int)
  | [] => rfl
  | x :: L => by
    have ih := len_two g n L
    simp only [List.filter_cons, decide_eq_true_eq]
    by_cases h1 : g x < n
    · rw [if_pos h1, if_neg (by omega), if_pos (by omega), List.length_cons, List.length_cons]; omega
    · by_cases h2 : g x = n
      · rw [if_neg h1, if_pos h2, if_pos (by omega), List.length_cons, List.length_cons]; omega
      · rw [if_neg h1, if_neg h2, if_neg (by omega)]; exact ih
theorem len_split {α : Type} (g : α → Nat) (L : List α) (n : Nat) : sumR n (fun j => ((L.filter fun x => decide (g x = j)).length : Int)) = ((L.filter fun x => decide (g x < n)).length : Int) := by
  induction n with
  | zero =>
    have : (L.filter fun x => decide (g x < 0)) = [] := by rw [List.filter_eq_nil_iff]; intro x _; simp
    rw [this]; rfl
  | succ n ih => rw [sumR_succ, ih, len_two]
theorem all_split {l : Cx} (hl : ∀ s ∈ l, Asc s) (k : Nat) : sumR (partsN l) (fun j => ((allC (partC l j) (k + 1)).length : Int)) = ((allC l (k + 1)).length : Int) := by
  have e : (fun j => ((allC (partC l j) (k + 1)).length : Int)) = fun j => (((allC l (k + 1)).filter fun x => decide (posG (distG (rootsC l)) (repM (ufC l) (hdV x)) = j)).length : Int) := by
    funext j; rw [all_part hl]
  rw [e, len_split]
  congr 2
  rw [List.filter_eq_self]
  intro x hx
  obtain ⟨h1, h2, h3⟩ := (all_iff hl).1 hx
  obtain ⟨f, hf, hi⟩ := hasC_iff.1 h3
  rw [rep_in hf (inside_mem.1 hi _ (hd_mem (s := x) (by omega)))]
  exact decide_eq_true (num_lt hf)
theorem eul_split {l : Cx} (hl : ∀ s ∈ l, Asc s) : ∀ k, sumR (partsN l) (fun j => eulS (partC l j) k) = eulS l k
  | 0 => sumR_zero _
  | k + 1 => by
    have h1 := eul_split hl k
    have h2 := all_split hl k
    by_cases hk : (k + 1) % 2 = 1
    · have e : (fun j => eulS (partC l j) (k + 1)) = fun j => eulS (partC l j) k + ((allC (partC l j) (k + 1)).length : Int) := by funext j; show (if (k + 1) % 2 = 1 then _ else _) = _; rw [if_pos hk]
      rw [e, sumR_add, h1, h2]
      show _ = if (k + 1) % 2 = 1 then _ else _
      rw [if_pos hk]
    · have e : (fun j => eulS (partC l j) (k + 1)) = fun j => eulS (partC l j) k - ((allC (partC l j) (k + 1)).length : Int) := by funext j; show (if (k + 1) % 2 = 1 then _ else _) = _; rw [if_neg hk]
      rw [e, sumR_sub, h1, h2]
      show _ = if (k + 1) % 2 = 1 then _ else _
      rw [if_neg hk]
/-- the sum over the numbers, in whatever order they come -/
theorem sum_perm {a b : List Nat} (h : a.Perm b) (f : Nat → Int) : (a.map f).sum = (b.map f).sum := by
  induction h with
  | nil => rfl
  | cons x _ ih => simp only [List.map_cons, List.sum_cons, ih]
  | swap x y l => simp only [List.map_cons, List.sum_cons]; omega
  | trans _ _ h1 h2 => exact h1.trans h2
theorem sum_seen {seen : List Nat} {n : Nat} (hn : seen.Nodup) (h1 : ∀ j ∈ seen, j < n) (h2 : ∀ j, j < n → j ∈ seen) (f : Nat → Int) : (seen.map f).sum = sumR n f := by
  refine sum_perm ((List.perm_ext_iff_of_nodup hn List.nodup_range).2 fun j => ?_) f
  rw [List.mem_range]
  exact ⟨h1 j, h2 j⟩
theorem eul_abs {l : Cx} {B : Nat} (h : ∀ k, (allC l (k + 1)).length ≤ B) : ∀ k : Nat, -(((B * k : Nat)) : Int) ≤ eulS l k ∧ eulS l k ≤ ((B * k : Nat) : Int)
  | 0 => by show _ ≤ (0 : Int) ∧ (0 : Int) ≤ _; rw [Nat.mul_zero]; omega
  | k + 1 => by
    have h1 := eul_abs h k
    have h2 := h k
    have h3 : B * (k + 1) = B * k + B := Nat.mul_succ _ _
    rw [h3]
    generalize B * k = C at *
    show -_ ≤ (if (k + 1) % 2 = 1 then eulS l k + ((allC l (k + 1)).length : Int) else eulS l k - ((allC l (k + 1)).length : Int)) ∧ (if (k + 1) % 2 = 1 then eulS l k + ((allC l (k + 1)).length : Int) else eulS l k - ((allC l (k + 1)).length : Int)) ≤ _
    split <;> omega
theorem Gd.abs {l : Cx} (h : Gd l) : -2400 ≤ eulS l 8 ∧ eulS l 8 ≤ 2400 := by
  have := eul_abs (l := l) (B := 300) (fun k => h.all (k + 1)) 8
  omega
theorem app_abs {a b : Cx} (ha : Gd a) (hb : Gd b) : (-4800 ≤ eulS (maxC (a ++ b)) 8 ∧ eulS (maxC (a ++ b)) 8 ≤ 4800) ∧ (-4800 ≤ eulS (maxC (meetC27 a b)) 8 ∧ eulS (maxC (meetC27 a b)) 8 ≤ 4800) := by
  have h := fun k => all_adds ha hb k
  have h1 := eul_abs (l := maxC (a ++ b)) (B := 600) (fun k => by have := h k; have := ha.all (k + 1); have := hb.all (k + 1); omega) 8
  have h2 := eul_abs (l := maxC (meetC27 a b)) (B := 600) (fun k => by have := h k; have := ha.all (k + 1); have := hb.all (k + 1); omega) 8
  omega
end Go.Proofs.Ytkedmlandjlogaa
