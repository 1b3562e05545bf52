/- Part 40 -/
import Derived.Test.YtgppfikidagfpaaGreatDoorVe32
set_option linter.unusedVariables false
set_option linter.unusedSimpArgs false
set_option linter.unusedSectionVars false
namespace Go.Proofs.YtgppfikidagfpaaGreatDoor
section
variable {φ : Vx → Vx}
def Keeps (φ : Vx → Vx) : Prop := ∀ a b, cmpV (φ a) (φ b) = cmpV a b
abbrev mpC (φ : Vx → Vx) (l : Cx) : Cx := l.map (List.map φ)
theorem nat_inj (hφ : Keeps φ) {a b : Vx} : φ a = φ b ↔ a = b := by rw [← cmpV_eq, hφ, cmpV_eq]
theorem nat_mem (hφ : Keeps φ) {a : Vx} {s : List Vx} : φ a ∈ s.map φ ↔ a ∈ s := by
  rw [List.mem_map]
  exact ⟨fun ⟨x, hx, e⟩ => (nat_inj hφ).1 e ▸ hx, fun h => ⟨a, h, rfl⟩⟩
theorem nat_list (hφ : Keeps φ) {s t : List Vx} : s.map φ = t.map φ ↔ s = t := List.map_inj_right fun _ _ e => (nat_inj hφ).1 e
theorem nat_memC (hφ : Keeps φ) {s : List Vx} {l : Cx} : s.map φ ∈ mpC φ l ↔ s ∈ l := by
  rw [List.mem_map]
  exact ⟨fun ⟨x, hx, e⟩ => (nat_list hφ).1 e ▸ hx, fun h => ⟨s, h, rfl⟩⟩
theorem nat_cmpL (hφ : Keeps φ) : ∀ s t : List Vx, cmpL (s.map φ) (t.map φ) = cmpL s t
  | [], [] => rfl
  | [], _ :: _ => rfl
  | _ :: _, [] => rfl
  | x :: a, y :: b => by
    show (if cmpV (φ x) (φ y) = 0 then cmpL (a.map φ) (b.map φ) else cmpV (φ x) (φ y)) = if cmpV x y = 0 then cmpL a b else cmpV x y
    rw [hφ, nat_cmpL hφ a b]
theorem nat_inside (hφ : Keeps φ) (s t : List Vx) : insideV (s.map φ) (t.map φ) = insideV s t := by
  unfold insideV
  rw [List.all_map]
  congr 1
  funext x
  exact decide_eq_decide.2 (nat_mem hφ)
theorem nat_covered (hφ : Keeps φ) (l : Cx) (s : List Vx) : coveredC (mpC φ l) (s.map φ) = coveredC l s := by
  unfold coveredC
  rw [List.any_map]
  congr 1
  funext x
  show (decide ((s.map φ).length < (x.map φ).length) && insideV (s.map φ) (x.map φ)) = _
  rw [List.length_map, List.length_map, nat_inside hφ]
theorem nat_insC (hφ : Keeps φ) (s : List Vx) : ∀ l : Cx, insC (mpC φ l) (s.map φ) = mpC φ (insC l s)
  | [] => rfl
  | x :: l => by
    show (if cmpL (s.map φ) (x.map φ) < 0 then s.map φ :: x.map φ :: mpC φ l else x.map φ :: insC (mpC φ l) (s.map φ)) = mpC φ (if cmpL s x < 0 then s :: x :: l else x :: insC l s)
    rw [nat_cmpL hφ, nat_insC hφ s l]
    split <;> rfl
theorem nat_putC (hφ : Keeps φ) (l : Cx) (s : List Vx) : putC (mpC φ l) (s.map φ) = mpC φ (putC l s) := by
  unfold putC
  by_cases h : s ∈ l
  · rw [if_pos h, if_pos ((nat_memC hφ).2 h)]
  · rw [if_neg h, if_neg fun q => h ((nat_memC hφ).1 q), nat_insC hφ]
theorem nat_foldPut (hφ : Keeps φ) : ∀ l out : Cx, (mpC φ l).foldl putC (mpC φ out) = mpC φ (l.foldl putC out)
  | [], _ => rfl
  | s :: l, out => by
    show (mpC φ l).foldl putC (putC (mpC φ out) (s.map φ)) = mpC φ (l.foldl putC (putC out s))
    rw [nat_putC hφ, nat_foldPut hφ l]
theorem nat_max (hφ : Keeps φ) (l : Cx) : maxC (mpC φ l) = mpC φ (maxC l) := by
  unfold maxC
  have e : (mpC φ l).filter (topC (mpC φ l)) = mpC φ (l.filter (topC l)) := by
    unfold mpC
    rw [List.filter_map]
    congr 1
    refine List.filter_congr fun x _ => ?_
    show topC (mpC φ l) (x.map φ) = topC l x
    unfold topC
    rw [List.length_map, nat_covered hφ]
  rw [e]
  exact nat_foldPut hφ _ []
theorem nat_subs : ∀ (k : Nat) (s : List Vx), subsV k (s.map φ) = mpC φ (subsV k s)
  | 0, _ => by cases ‹List Vx› <;> rfl
  | _ + 1, [] => rfl
  | k + 1, v :: s => by
    show (subsV k (s.map φ)).map (φ v :: ·) ++ subsV (k + 1) (s.map φ) = mpC φ ((subsV k s).map (v :: ·) ++ subsV (k + 1) s)
    rw [nat_subs k s, nat_subs (k + 1) s]
    unfold mpC
    rw [List.map_append, List.map_map, List.map_map]
    rfl
theorem nat_allC (hφ : Keeps φ) (l : Cx) (k : Nat) : allC (mpC φ l) k = mpC φ (allC l k) := by
  unfold allC
  have go : ∀ l out : Cx, (mpC φ l).foldl (fun out f => if f.length < k then out else (subsV k f).foldl putC out) (mpC φ out) = mpC φ (l.foldl (fun out f => if f.length < k then out else (subsV k f).foldl putC out) out) := by
    intro l
    induction l with
    | nil => intro out; rfl
    | cons f l ih =>
      intro out
      show (mpC φ l).foldl _ (if (f.map φ).length < k then mpC φ out else (subsV k (f.map φ)).foldl putC (mpC φ out)) = mpC φ (l.foldl _ (if f.length < k then out else (subsV k f).foldl putC out))
      rw [List.length_map, nat_subs, nat_foldPut hφ]
      by_cases h : f.length < k
      · rw [if_pos h, if_pos h]; exact ih out
      · rw [if_neg h, if_neg h]; exact ih _
  exact go l []
theorem nat_eulS (hφ : Keeps φ) (l : Cx) : ∀ k, eulS (mpC φ l) k = eulS l k
  | 0 => rfl
  | k + 1 => by
    unfold eulS
    rw [nat_allC hφ, List.length_map, nat_eulS hφ l k]
theorem nat_around (hφ : Keeps φ) (l : Cx) (s : List Vx) : aroundC (mpC φ l) (s.map φ) = mpC φ (aroundC l s) := by
  unfold aroundC mpC
  rw [List.filter_map]
  congr 1
  refine List.filter_congr fun x _ => ?_
  exact nat_inside hφ s x
theorem nat_one (hφ : Keeps φ) (l : Cx) (s : List Vx) : oneC (mpC φ l) (s.map φ) = oneC l s := by
  unfold oneC
  rw [nat_around hφ, List.length_map]
theorem nat_ok (hφ : Keeps φ) (l : Cx) (s : List Vx) : okC (mpC φ l) (s.map φ) = okC l s := by
  unfold okC
  rw [nat_around hφ, List.length_map]
theorem nat_has (hφ : Keeps φ) (l : Cx) (s : List Vx) : hasC' (mpC φ l) (s.map φ) = hasC' l s := by
  unfold hasC'
  rw [List.any_map]
  congr 1
  funext x
  exact nat_inside hφ s x
theorem nat_dim (l : Cx) : dimC (mpC φ l) = dimC l := by
  unfold dimC
  rw [List.foldl_map]
  congr 1
  funext m s
  rw [List.length_map]
theorem nat_size (l : Cx) : sizeP (mpC φ l) = sizeP l := by
  unfold sizeP
  rw [List.length_map]
  congr 1
  funext i
  have e : ((mpC φ l).getD i []).length = (l.getD i []).length := by
    rw [List.getD_eq_getElem?_getD, List.getD_eq_getElem?_getD, List.getElem?_map]
    cases l[i]? <;> simp
  rw [e, ← List.map_take, nat_dim]
end
theorem mono_of : ∀ (l : List Int) (a : Int), (a :: l).Pairwise (· < ·) → ∃ g : Int → Int, (∀ i j, i < j → g i < g j) ∧ g 0 = a ∧ ∀ (k : Nat) (h : k < l.length), g ((k : Int) + 1) = l[k]
  | [], a, _ => ⟨fun i => a + i, fun i j h => by show a + i < a + j; omega, by show a + 0 = a; omega, fun k h => by cases h⟩
  | b :: l, a, hp => by
    obtain ⟨h1, h2⟩ := List.pairwise_cons.1 hp
    obtain ⟨g, hg, h0, hk⟩ := mono_of l b h2
    have hab : a < b := h1 b (by simp)
    refine ⟨fun i => if i ≤ 0 then a + i else g (i - 1), fun i j hij => ?_, by show (if (0 : Int) ≤ 0 then a + 0 else _) = a; rw [if_pos (by omega)]; omega, fun k h => ?_⟩
    · show (if i ≤ 0 then a + i else g (i - 1)) < if j ≤ 0 then a + j else g (j - 1)
      by_cases hi : i ≤ 0
      · rw [if_pos hi]
        by_cases hj : j ≤ 0
        · rw [if_pos hj]; omega
        · rw [if_neg hj]
          have : g 0 ≤ g (j - 1) := by
            by_cases e : j - 1 = 0
            · rw [e]; omega
            · have := hg 0 (j - 1) (by omega); omega
          omega
      · rw [if_neg hi, if_neg (show ¬ j ≤ 0 by omega)]
        exact hg _ _ (by omega)
    · show (if ((k : Int) + 1) ≤ 0 then _ else g ((k : Int) + 1 - 1)) = _
      rw [if_neg (by omega), show (k : Int) + 1 - 1 = (k : Int) by omega]
      cases k with
      | zero => exact h0
      | succ k =>
        have := hk k (by simpa using h)
        rw [show ((k + 1 : Nat) : Int) = (k : Int) + 1 by omega, this]
        rfl
theorem keeps_color {g : Int → Int} (hg : ∀ i j, i < j → g i < g j) : Keeps fun v => (g v.1, v.2) := fun a b => by
  have h : ∀ x y : Int, g x < g y ↔ x < y := fun x y => ⟨fun h => by
    by_cases e : x = y
    · rw [e] at h; omega
    · by_cases h' : x < y
      · exact h'
      · have := hg y x (by omega); omega, hg x y⟩
  unfold cmpV
  simp only [h]
def canS (n : Nat) : List Vx := (List.range n).map fun i => (((i : Nat) : Int), 0)
theorem canS_len (n : Nat) : (canS n).length = n := by simp [canS]
theorem canS_get {n i : Nat} (h : i < (canS n).length) : (canS n)[i] = ((i : Int), 0) := by simp [canS]
theorem placeB_get {s : List Vx} {bl : List Nat} {i : Nat} (h : i < (placeB s bl).length) : (placeB s bl)[i] = ((s[i]'(by rw [placeB_len] at h; exact h)).1, ((snapB bl i 0 : Nat) : Int)) := by simp [placeB]
theorem can_map {s : List Vx} (hs : s.Pairwise fun a b => a.1 < b.1) : ∃ φ, Keeps φ ∧ (∀ v, (φ v).2 = v.2) ∧ (∀ (i : Nat) (m : Int) (h : i < s.length), φ ((i : Int), m) = (s[i].1, m)) ∧ facB s = mpC φ (facB (canS s.length)) := by
  obtain ⟨g, hg, hk⟩ : ∃ g : Int → Int, (∀ i j, i < j → g i < g j) ∧ ∀ (k : Nat) (h : k < s.length), g (k : Int) = s[k].1 := by
    cases s with
    | nil => exact ⟨id, fun _ _ h => h, fun k h => by cases h⟩
    | cons x s =>
      have hp : ((x :: s).map fun v : Vx => v.1).Pairwise (· < ·) := List.pairwise_map.2 hs
      obtain ⟨g, h1, h2, h3⟩ := mono_of (s.map fun v : Vx => v.1) x.1 hp
      refine ⟨g, h1, fun k h => ?_⟩
      cases k with
      | zero => exact h2
      | succ k =>
        have := h3 k (by simpa using h)
        rw [show ((k + 1 : Nat) : Int) = (k : Int) + 1 by omega, this]
        simp
  refine ⟨fun v => (g v.1, v.2), keeps_color hg, fun _ => rfl, fun i m h => by show (g (i : Int), m) = _; rw [hk i h], ?_⟩
  unfold facB mpC
  rw [canS_len, List.map_map]
  refine List.map_congr_left fun bl _ => ?_
  show placeB s bl = (placeB (canS s.length) bl).map _
  apply List.ext_getElem
  · rw [List.length_map, placeB_len, placeB_len, canS_len]
  · intro i h1 h2
    rw [List.getElem_map, placeB_get, placeB_get, canS_get]
    show _ = (g (i : Int), _)
    rw [hk i (by rw [placeB_len] at h1; exact h1)]
end Go.Proofs.YtgppfikidagfpaaGreatDoor
namespace Go.Proofs.YtgppfikidagfpaaGreatDoor
def pos29 (V : List Vx) (v : Vx) : Int := idxG (fun y => decide (v = y)) 0 V
theorem idx_spec {α : Type} {p : α → Bool} : ∀ (l : List α) (k : Nat), 0 ≤ idxG p k l → ∃ j, idxG p k l = ((k + j : Nat) : Int) ∧ ∃ h : j < l.length, p l[j] = true
  | [], k, h => absurd h (by unfold idxG; omega)
  | x :: l, k, h => by
    unfold idxG at h ⊢
    by_cases hx : p x = true
    · rw [if_pos hx]; exact ⟨0, by simp, by simp, by simpa using hx⟩
    · rw [if_neg hx] at h ⊢
      obtain ⟨j, h1, h2, h3⟩ := idx_spec l (k + 1) h
      exact ⟨j + 1, by rw [h1]; congr 1; omega, by simpa using h2, by simpa using h3⟩
theorem pos_spec {V : List Vx} {v : Vx} (h : 0 ≤ pos29 V v) : ∃ j : Nat, pos29 V v = (j : Int) ∧ ∃ h : j < V.length, V[j] = v := by
  obtain ⟨j, h1, h2, h3⟩ := idx_spec V 0 h
  exact ⟨j, by rw [Nat.zero_add] at h1; exact h1, h2, (of_decide_eq_true h3).symm⟩
theorem pos_nn {V : List Vx} {v : Vx} : 0 ≤ pos29 V v ↔ v ∈ V := by
  have h := idxG_iff (p := fun y => decide (v = y)) V 0
  have e : (0 ≤ pos29 V v) ↔ decide (0 ≤ idxG (fun y => decide (v = y)) 0 V) = true := by rw [decide_eq_true_eq]; rfl
  rw [e, h, List.any_eq_true]
  exact ⟨fun ⟨x, h1, h2⟩ => (of_decide_eq_true h2) ▸ h1, fun h => ⟨v, h, decide_eq_true rfl⟩⟩
theorem pos_at {V : List Vx} (hV : V.Nodup) {k : Nat} (h : k < V.length) : pos29 V V[k] = (k : Int) := by
  obtain ⟨j, h1, h2, h3⟩ := pos_spec (pos_nn.2 (List.getElem_mem h))
  rw [h1, (List.getElem_inj hV).1 h3]
def catS (V : List Vx) (C : Cx) (out : List Vx) (v : Vx) : List Vx := if 0 ≤ pos29 V v then out ++ (C[(pos29 V v).toNat]?.getD []) else out
def catP (V : List Vx) (C : Cx) (s : List Vx) : List Vx := s.foldl (catS V C) []
def unP (V : List Vx) (C : Cx) (s : List Vx) : List Vx := if (ofV (catP V C s)).2 ≠ 0 then [] else (ofV (catP V C s)).1
def stepU (s : List Vx) (out : List Vx) (p : Vx × List Vx) : List Vx := if p.1 ∈ s then allV out p.2 else out
def unR (V : List Vx) (C : Cx) (s : List Vx) : List Vx := (V.zip C).foldl (stepU s) []
theorem mem_cat {V : List Vx} {C : Cx} {x : Vx} : ∀ (s out : List Vx), x ∈ s.foldl (catS V C) out ↔ x ∈ out ∨ ∃ v ∈ s, 0 ≤ pos29 V v ∧ x ∈ C[(pos29 V v).toNat]?.getD []
  | [], out => by simp
  | v :: s, out => by
    rw [List.foldl_cons, mem_cat s]
    have e : x ∈ catS V C out v ↔ x ∈ out ∨ (0 ≤ pos29 V v ∧ x ∈ C[(pos29 V v).toNat]?.getD []) := by
      unfold catS
      by_cases h : 0 ≤ pos29 V v
      · rw [if_pos h, List.mem_append]; simp [h]
      · rw [if_neg h]; simp [h]
    rw [e]
    simp only [List.mem_cons, exists_eq_or_imp, or_assoc]
theorem cat_len (V : List Vx) (C : Cx) (hc : ∀ c ∈ C, c.length ≤ 8) : ∀ (s out : List Vx), (s.foldl (catS V C) out).length ≤ out.length + 8 * s.length
  | [], out => by simp
  | v :: s, out => by
    rw [List.foldl_cons]
    have h1 := cat_len V C hc s (catS V C out v)
    have h2 : (catS V C out v).length ≤ out.length + 8 := by
      unfold catS
      split
      · rw [List.length_append]
        have : (C[(pos29 V v).toNat]?.getD []).length ≤ 8 := by
          cases h : C[(pos29 V v).toNat]? with
          | none => simp
          | some c => exact hc c (List.mem_of_getElem? h)
        omega
      · omega
    simp only [List.length_cons]
    omega
theorem mem_stepU {s : List Vx} {x : Vx} : ∀ (L : List (Vx × List Vx)) (out : List Vx), x ∈ L.foldl (stepU s) out ↔ x ∈ out ∨ ∃ p ∈ L, p.1 ∈ s ∧ x ∈ p.2
  | [], out => by simp
  | p :: L, out => by
    rw [List.foldl_cons, mem_stepU L]
    have e : x ∈ stepU s out p ↔ x ∈ out ∨ (p.1 ∈ s ∧ x ∈ p.2) := by
      unfold stepU
      by_cases h : p.1 ∈ s
      · rw [if_pos h, mem_allV]; simp [h]
      · rw [if_neg h]; simp [h]
    rw [e]
    simp only [List.mem_cons, exists_eq_or_imp, or_assoc]
theorem asc_stepU {s : List Vx} : ∀ (L : List (Vx × List Vx)) {out : List Vx}, Asc out → Asc (L.foldl (stepU s) out)
  | [], _, h => h
  | p :: L, out, h => by
    rw [List.foldl_cons]
    refine asc_stepU L ?_
    unfold stepU
    split
    · exact asc_allV h
    · exact h
theorem unR_asc (V : List Vx) (C : Cx) (s : List Vx) : Asc (unR V C s) := asc_stepU _ (by simp [Asc])
theorem mem_unR {V : List Vx} {C : Cx} {s : List Vx} {x : Vx} : x ∈ unR V C s ↔ ∃ (k : Nat) (h : k < V.length) (h' : k < C.length), V[k] ∈ s ∧ x ∈ C[k] := by
  unfold unR
  rw [mem_stepU]
  constructor
  · rintro (h | ⟨p, hp, h1, h2⟩)
    · cases h
    · obtain ⟨k, hk, rfl⟩ := List.mem_iff_getElem.1 hp
      rw [List.length_zip] at hk
      rw [List.getElem_zip] at h1 h2
      exact ⟨k, by omega, by omega, h1, h2⟩
  · rintro ⟨k, h, h', h1, h2⟩
    exact .inr ⟨(V[k], C[k]), List.mem_iff_getElem.2 ⟨k, by rw [List.length_zip]; omega, by rw [List.getElem_zip]⟩, h1, h2⟩
theorem mem_catR {V : List Vx} {C : Cx} (hV : V.Nodup) (hl : C.length = V.length) {s : List Vx} {x : Vx} : x ∈ catP V C s ↔ x ∈ unR V C s := by
  unfold catP
  rw [mem_cat, mem_unR]
  constructor
  · rintro (h | ⟨v, h1, h2, h3⟩)
    · cases h
    · obtain ⟨j, e, hj, rfl⟩ := pos_spec h2
      rw [e, Int.toNat_natCast, List.getElem?_eq_getElem (by omega), Option.getD_some] at h3
      exact ⟨j, hj, by omega, h1, h3⟩
  · rintro ⟨k, h, h', h1, h2⟩
    refine .inr ⟨V[k], h1, ?_, ?_⟩
    · rw [pos_at hV h]; omega
    · rw [pos_at hV h, Int.toNat_natCast, List.getElem?_eq_getElem h', Option.getD_some]; exact h2
theorem unP_is {V : List Vx} {C : Cx} (hV : Asc V) (hl : C.length = V.length) (hc : ∀ c ∈ C, chkV c = 0) (s : List Vx) : unP V C s = if 8 < (unR V C s).length then [] else unR V C s := by
  have hm := fun x => mem_catR (asc_nodup hV) hl (s := s) (x := x)
  have e : allV [] (catP V C s) = unR V C s := asc_ext (asc_allV (by simp [Asc])) (unR_asc _ _ _) fun x => by rw [mem_allV, hm]; simp
  have hr : (catP V C s).all rngV = true := List.all_eq_true.2 fun x hx => by
    obtain ⟨k, h, h', _, h2⟩ := mem_unR.1 ((hm x).1 hx)
    exact (chkV_zero.1 (hc _ (List.getElem_mem h'))).2.2.1 x h2
  unfold unP ofV
  rw [e]
  by_cases h0 : (catP V C s).length = 0
  · have : catP V C s = [] := List.length_eq_zero_iff.1 h0
    rw [this] at e
    rw [if_pos h0, ← e]
    rfl
  · rw [if_neg h0, if_neg (show ¬ (catP V C s).all rngV = false by rw [hr]; decide)]
    by_cases h8 : 8 < (unR V C s).length
    · rw [if_pos h8, if_pos h8]; rfl
    · rw [if_neg h8, if_neg h8]; rfl
def okP (c : Cx) (V : List Vx) (C : Cx) (f : List Vx) : Bool := decide ((contC c (unP V C f)).2 = 0) && (contC c (unP V C f)).1
def carE (c : Cx) : List (List Vx) → Int
  | [] => 0
  | s :: l => if chkV s ≠ 0 then chkV s else if hasC' c s = false then 6 else carE c l
def chk29 (p : List Vx → Bool) (c F : Cx) (V : List Vx) (C : Cx) : Int :=
  if chkC c ≠ 0 then chkC c else if chkC F ≠ 0 then chkC F else if ¬ (V = ptsC F ∧ C.length = V.length) then 15 else if carE c C ≠ 0 then carE c C else if F.all p = true then 0 else 22
theorem carE_zero {c : Cx} : ∀ {l : List (List Vx)}, carE c l = 0 → ∀ s ∈ l, chkV s = 0 ∧ hasC' c s = true
  | [], _, _, h => by cases h
  | s :: l, h, x, hx => by
    unfold carE at h
    by_cases h1 : chkV s ≠ 0
    · rw [if_pos h1] at h; exact absurd h h1
    rw [if_neg h1] at h
    by_cases h2 : hasC' c s = false
    · rw [if_pos h2] at h; exact absurd h (by decide)
    rw [if_neg h2] at h
    rcases List.mem_cons.1 hx with rfl | hx
    · exact ⟨by omega, by simpa using h2⟩
    · exact carE_zero h x hx
theorem chk29_zero {p : List Vx → Bool} {c F : Cx} {V : List Vx} {C : Cx} (h : chk29 p c F V C = 0) : chkC c = 0 ∧ chkC F = 0 ∧ V = ptsC F ∧ C.length = V.length ∧ (∀ s ∈ C, chkV s = 0) ∧ ∀ f ∈ F, p f = true := by
  unfold chk29 at h
  by_cases h1 : chkC c ≠ 0
  · rw [if_pos h1] at h; exact absurd h h1
  rw [if_neg h1] at h
  by_cases h2 : chkC F ≠ 0
  · rw [if_pos h2] at h; exact absurd h h2
  rw [if_neg h2] at h
  by_cases h3 : V = ptsC F ∧ C.length = V.length
  · rw [if_neg (not_not_intro h3)] at h
    by_cases h4 : carE c C ≠ 0
    · rw [if_pos h4] at h; exact absurd h h4
    rw [if_neg h4] at h
    by_cases h5 : F.all p = true
    · exact ⟨by omega, by omega, h3.1, h3.2, fun s hs => (carE_zero (show carE c C = 0 by omega) s hs).1, fun f hf => List.all_eq_true.1 h5 f hf⟩
    · rw [if_neg h5] at h; exact absurd h (by decide)
  · rw [if_pos h3] at h; exact absurd h (by decide)
end Go.Proofs.YtgppfikidagfpaaGreatDoor
