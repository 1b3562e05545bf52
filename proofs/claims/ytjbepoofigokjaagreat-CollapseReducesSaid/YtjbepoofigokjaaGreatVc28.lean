/-
  Part 28 of the texts that the claims of this seat lean on: walks of the program's functions by contracts over symbolic frames, and plain laws of what they compute. No condition.
-/
import Derived.Test.YtjbepoofigokjaaGreatVc24
import Derived.Test.YtjbepoofigokjaaGreatVc25
import Derived.Test.YtjbepoofigokjaaGreatVc27
set_option linter.unusedVariables false
set_option linter.unusedSimpArgs false
set_option linter.unusedSectionVars false
namespace Go.Proofs.YtjbepoofigokjaaGreat
theorem asc_nd {a : List Vx} (h : Asc a) : a.Nodup := List.Pairwise.imp (fun {x y} hxy e => by
  subst e
  have := cmpV_eq.2 (rfl : x = x)
  omega) h
theorem putK_perm (l : List Cl) (x : Cl) : (putK l x).Perm (x :: l) := by
  have h := List.take_append_drop (atK l x l.length) l
  unfold putK
  rw [List.append_assoc]
  have h2 : (List.take (atK l x l.length) l ++ x :: List.drop (atK l x l.length) l).Perm (x :: (List.take (atK l x l.length) l ++ List.drop (atK l x l.length) l)) := List.perm_middle
  rw [h] at h2
  exact h2
theorem foldK_perm : ∀ (m o : List Cl), (m.foldl putK o).Perm (m ++ o)
  | [], _ => List.Perm.refl _
  | x :: m, o => by
    rw [List.foldl_cons]
    refine (foldK_perm m _).trans ?_
    refine ((putK_perm o x).append_left m).trans ?_
    exact List.perm_middle
def SortK (l : List Cl) : Prop := l.Pairwise fun a b => ¬ cmpL b.1 a.1 < 0
def AscK (l : List Cl) : Prop := l.Pairwise fun a b => cmpL a.1 b.1 < 0
theorem cmp_not {a b c : List Vx} (h1 : ¬ cmpL b a < 0) (h2 : ¬ cmpL c b < 0) : ¬ cmpL c a < 0 := fun h => by
  rcases cmpL_cases a b with h3 | h3 | h3
  · exact h2 (cmpL_lt_trans h h3)
  · exact h1 h3
  · subst h3; exact h2 h
theorem cmp_asym {a b : List Vx} (h : cmpL a b < 0) : ¬ cmpL b a < 0 := fun k => by
  have := cmpL_lt_trans h k
  rw [cmpL_irr] at this
  omega
theorem atK_spec (l : List Cl) (x : Cl) : ∀ n, n ≤ l.length → (∀ i (hi : i < l.length), atK l x n ≤ i → i < n → cmpL x.1 l[i].1 < 0) ∧ (atK l x n = 0 ∨ ∃ h : atK l x n - 1 < l.length, ¬ cmpL x.1 (l[atK l x n - 1]'h).1 < 0)
  | 0, _ => ⟨fun i _ _ h => absurd h (Nat.not_lt_zero _), .inl rfl⟩
  | k + 1, hk => by
    have hkl : k < l.length := hk
    have hg : l.getD k ([], []) = l[k] := by rw [List.getD_eq_getElem?_getD, List.getElem?_eq_getElem hkl]; rfl
    by_cases hc : cmpL x.1 l[k].1 < 0
    · have e : atK l x (k + 1) = atK l x k := by
        show (if cmpL x.1 (l.getD k ([], [])).1 < 0 then _ else _) = _
        rw [hg, if_pos hc]
      rw [e]
      obtain ⟨h1, h2⟩ := atK_spec l x k (by omega)
      refine ⟨fun i hi a1 a2 => ?_, h2⟩
      by_cases hik : i = k
      · subst hik; exact hc
      · exact h1 i hi a1 (by omega)
    · have e : atK l x (k + 1) = k + 1 := by
        show (if cmpL x.1 (l.getD k ([], [])).1 < 0 then _ else _) = _
        rw [hg, if_neg hc]
      rw [e]
      exact ⟨fun i _ a1 a2 => by omega, .inr ⟨hkl, hc⟩⟩
theorem putK_sort {l : List Cl} (h : SortK l) (x : Cl) : SortK (putK l x) := by
  obtain ⟨h1, h2⟩ := atK_spec l x l.length (Nat.le_refl _)
  have hle := atK_le l x l.length
  unfold putK SortK
  generalize atK l x l.length = k at *
  unfold SortK at h
  rw [List.append_assoc, List.pairwise_append]
  have hd : ∀ b ∈ l.drop k, cmpL x.1 b.1 < 0 := fun b hb => by
    obtain ⟨i, hi, rfl⟩ := List.mem_iff_getElem.1 hb
    rw [List.getElem_drop]
    rw [List.length_drop] at hi
    exact h1 _ (by omega) (by omega) (by omega)
  have ht : ∀ a ∈ l.take k, ¬ cmpL x.1 a.1 < 0 := fun a ha => by
    obtain ⟨i, hi, rfl⟩ := List.mem_iff_getElem.1 ha
    rw [List.length_take] at hi
    rw [List.getElem_take]
    rcases h2 with h2 | ⟨h3, h4⟩
    · omega
    · by_cases hik : i = k - 1
      · subst hik; exact h4
      · exact cmp_not (List.pairwise_iff_getElem.1 h i (k - 1) (by omega) h3 (by omega)) h4
  refine ⟨h.sublist (List.take_sublist _ _), ?_, fun a ha b hb => ?_⟩
  · show List.Pairwise _ (x :: l.drop k)
    rw [List.pairwise_cons]
    exact ⟨fun b hb => cmp_asym (hd b hb), h.sublist (List.drop_sublist _ _)⟩
  · have hb' : b = x ∨ b ∈ l.drop k := by simpa using hb
    rcases hb' with rfl | hb'
    · exact ht a ha
    · exact cmp_not (ht a ha) (cmp_asym (hd b hb'))
theorem foldK_sort : ∀ (m : List Cl) {o : List Cl}, SortK o → SortK (m.foldl putK o)
  | [], _, h => h
  | x :: m, _, h => by rw [List.foldl_cons]; exact foldK_sort m (putK_sort h x)
theorem rowK_mem {l : Cx} {f : List Vx} {t : Cx} {x : Cl} : x ∈ rowK l f t ↔ x.2 = f ∧ x.1 ∈ t ∧ abvC l x.1 = 1 := by
  unfold rowK
  rw [List.mem_map]
  constructor
  · rintro ⟨s, hs, rfl⟩
    rw [List.mem_filter] at hs
    exact ⟨rfl, hs.1, of_decide_eq_true hs.2⟩
  · rintro ⟨rfl, h1, h2⟩
    exact ⟨x.1, List.mem_filter.2 ⟨h1, decide_eq_true h2⟩, rfl⟩
theorem pairs_mem {l : Cx} {x : Cl} : x ∈ pairsC l ↔ x.2 ∈ l ∧ x.2.length ≠ 1 ∧ x.1 ∈ subsV (x.2.length - 1) x.2 ∧ abvC l x.1 = 1 := by
  unfold pairsC prK
  rw [(foldK_perm _ _).mem_iff, List.append_nil, List.mem_flatMap]
  constructor
  · rintro ⟨f, hf, hx⟩
    unfold offK at hx
    split at hx
    · cases hx
    · next h =>
      obtain ⟨rfl, h1, h2⟩ := rowK_mem.1 hx
      exact ⟨hf, h, h1, h2⟩
  · rintro ⟨h1, h2, h3, h4⟩
    refine ⟨x.2, h1, ?_⟩
    unfold offK
    rw [if_neg h2]
    exact rowK_mem.2 ⟨rfl, h3, h4⟩
theorem abv_one {l : Cx} {t : List Vx} (h : abvC l t = 1) {f g : List Vx} (hf : f ∈ l) (hg : g ∈ l) (h1 : insideV t f = true) (h2 : insideV t g = true) : f = g := by
  unfold abvC at h
  obtain ⟨a, ha⟩ := List.length_eq_one_iff.1 h
  have h3 : f ∈ l.filter fun f => insideV t f := List.mem_filter.2 ⟨hf, h1⟩
  have h4 : g ∈ l.filter fun f => insideV t f := List.mem_filter.2 ⟨hg, h2⟩
  rw [ha, List.mem_singleton] at h3 h4
  rw [h3, h4]
structure PairOk (l : Cx) (x : Cl) : Prop where
  mem : x.2 ∈ l
  chk2 : chkV x.2 = 0
  chk1 : chkV x.1 = 0
  sub : x.1.Sublist x.2
  len : x.1.length + 1 = x.2.length
  one : ∀ f ∈ l, insideV x.1 f = true → f = x.2
theorem pair_ok {l : Cx} (G : GoodX l) {x : Cl} (hx : x ∈ pairsC l) : PairOk l x := by
  obtain ⟨h1, h2, h3, h4⟩ := pairs_mem.1 hx
  have hc := G.2.2.1 _ h1
  obtain ⟨l1, l2⟩ := chk_len hc
  obtain ⟨k1, k2, k3⟩ := face_good hc (by omega) h3
  have ha2 := G.asc _ h1
  exact ⟨h1, hc, k1, k2, by omega, fun f hf hi => abv_one h4 hf h1 hi ((sub_inside (chkV_zero.1 k1).2.2.2 ha2).1 k2)⟩
theorem left_has {l : Cx} (G : GoodX l) {x : Cl} (hx : PairOk l x) {t : List Vx} (ht : Asc t) : hasC' (leftC l x) t = true ↔ hasC' l t = true ∧ t ≠ x.1 ∧ t ≠ x.2 := by
  obtain ⟨m2, c2, c1, sb, ln, one⟩ := hx
  have a2 := G.asc _ m2
  have a1 := (chkV_zero.1 c1).2.2.2
  have p1 := chk_len c1
  have i12 : insideV x.1 x.2 = true := (sub_inside a1 a2).1 sb
  unfold leftC
  rw [max_has fun s hs => by
    rcases List.mem_append.1 hs with hs | hs
    · exact G.2.2.1 _ (List.mem_filter.1 hs).1
    · exact (face_good c2 (by omega) (List.mem_filter.1 hs).1).1]
  rw [hasC_iff, hasC_iff]
  constructor
  · rintro ⟨f, hf, hi⟩
    rcases List.mem_append.1 hf with hf | hf
    · obtain ⟨f1, f2⟩ := List.mem_filter.1 hf
      have f2 := of_decide_eq_true f2
      refine ⟨⟨f, f1, hi⟩, ?_, ?_⟩
      · rintro rfl
        exact f2 (one f f1 hi)
      · rintro rfl
        exact f2 (inside_anti G m2 f1 hi).symm
    · obtain ⟨f1, f2⟩ := List.mem_filter.1 hf
      have f2 := of_decide_eq_true f2
      obtain ⟨q1, q2, q3⟩ := face_good c2 (by omega) f1
      have af := (chkV_zero.1 q1).2.2.2
      refine ⟨⟨x.2, m2, inside_trans hi ((sub_inside af a2).1 q2)⟩, ?_, ?_⟩
      · rintro rfl
        by_cases he : x.1 = f
        · exact f2 he.symm
        · have := inside_lt a1 af hi he
          omega
      · rintro rfl
        have := inside_le a2 af hi
        omega
  · rintro ⟨⟨f, hf, hi⟩, n1, n2⟩
    by_cases hfx : f = x.2
    · subst hfx
      have hlt := inside_lt ht a2 hi n2
      by_cases hex : ∃ v ∈ x.2, v ∉ t ∧ v ∈ x.1
      · obtain ⟨v, v1, v2, v3⟩ := hex
        have nd := asc_nd a2
        have hu : x.2.erase v ∈ subsV (x.2.length - 1) x.2 := (subsV_mem _ _ _).2 ⟨List.erase_sublist, List.length_erase_of_mem v1⟩
        refine ⟨x.2.erase v, List.mem_append.2 (.inr (List.mem_filter.2 ⟨hu, decide_eq_true fun he => ?_⟩)), inside_mem.2 fun y hy => ?_⟩
        · rw [← he] at v3
          exact (nd.mem_erase_iff.1 v3).1 rfl
        · exact nd.mem_erase_iff.2 ⟨fun e => v2 (e ▸ hy), inside_mem.1 hi y hy⟩
      · have h3 : insideV x.1 t = true := inside_mem.2 fun y hy => Classical.byContradiction fun hn => hex ⟨y, inside_mem.1 i12 y hy, hn, hy⟩
        have := inside_lt a1 ht h3 (fun e => n1 e.symm)
        omega
    · exact ⟨f, List.mem_append.2 (.inl (List.mem_filter.2 ⟨hf, decide_eq_true hfx⟩)), hi⟩
theorem left_src {l : Cx} (G : GoodX l) {x : Cl} (hx : PairOk l x) : ∀ s ∈ (l.filter fun f => decide (f ≠ x.2)) ++ (subsV (x.2.length - 1) x.2).filter (fun t => decide (t ≠ x.1)), chkV s = 0 := fun s hs => by
  have p1 := chk_len hx.chk1
  have ln := hx.len
  rcases List.mem_append.1 hs with hs | hs
  · exact G.2.2.1 _ (List.mem_filter.1 hs).1
  · exact (face_good hx.chk2 (by omega) (List.mem_filter.1 hs).1).1
theorem left_chk {l : Cx} (G : GoodX l) {x : Cl} (hx : PairOk l x) : ∀ s ∈ leftC l x, chkV s = 0 := fun s hs => left_src G hx s (maxC_mem.1 hs).1
theorem left_all {l : Cx} (G : GoodX l) {x : Cl} (hx : PairOk l x) (k : Nat) : allC (leftC l x) k = (allC l k).filter fun t => decide (t ≠ x.1) && decide (t ≠ x.2) := by
  refine ascL_ext (allC_asc _ _) ((allC_asc _ _).sublist List.filter_sublist) fun t => ?_
  rw [List.mem_filter, all_iff (fun s hs => (chkV_zero.1 (left_chk G hx s hs)).2.2.2), all_iff G.asc]
  constructor
  · rintro ⟨h1, h2, h3⟩
    obtain ⟨q1, q2, q3⟩ := (left_has G hx h1).1 h3
    exact ⟨⟨h1, h2, q1⟩, by rw [decide_eq_true q2, decide_eq_true q3]; rfl⟩
  · rintro ⟨⟨h1, h2, h3⟩, h4⟩
    rw [Bool.and_eq_true, decide_eq_true_eq, decide_eq_true_eq] at h4
    exact ⟨h1, h2, (left_has G hx h1).2 ⟨h3, h4.1, h4.2⟩⟩
theorem count_out {α : Type} [DecidableEq α] {l : List α} (hn : l.Nodup) {a b : α} (hab : a ≠ b) : (l.filter fun t => decide (t ≠ a) && decide (t ≠ b)).length + (if a ∈ l then 1 else 0) + (if b ∈ l then 1 else 0) = l.length := by
  induction l with
  | nil => rfl
  | cons c l ih =>
    rw [List.nodup_cons] at hn
    have h := ih hn.2
    by_cases h1 : c = a
    · subst h1
      rw [List.filter_cons_of_neg (by simp), if_pos (List.mem_cons_self ..), List.length_cons]
      rw [if_neg hn.1] at h
      have e : (b ∈ c :: l) ↔ b ∈ l := by rw [List.mem_cons]; exact ⟨fun q => q.resolve_left fun q => hab q.symm, .inr⟩
      by_cases hb : b ∈ l
      · rw [if_pos (e.2 hb)]; rw [if_pos hb] at h; omega
      · rw [if_neg fun q => hb (e.1 q)]; rw [if_neg hb] at h; omega
    · by_cases h2 : c = b
      · subst h2
        rw [List.filter_cons_of_neg (by simp), if_pos (List.mem_cons_self ..), List.length_cons]
        rw [if_neg hn.1] at h
        have e : (a ∈ c :: l) ↔ a ∈ l := by rw [List.mem_cons]; exact ⟨fun q => q.resolve_left hab, .inr⟩
        by_cases ha : a ∈ l
        · rw [if_pos (e.2 ha)]; rw [if_pos ha] at h; omega
        · rw [if_neg fun q => ha (e.1 q)]; rw [if_neg ha] at h; omega
      · rw [List.filter_cons_of_pos (by simp [h1, h2]), List.length_cons, List.length_cons]
        have e1 : (a ∈ c :: l) ↔ a ∈ l := by rw [List.mem_cons]; exact ⟨fun q => q.resolve_left fun q => h1 q.symm, .inr⟩
        have e2 : (b ∈ c :: l) ↔ b ∈ l := by rw [List.mem_cons]; exact ⟨fun q => q.resolve_left fun q => h2 q.symm, .inr⟩
        simp only [e1, e2]
        omega
theorem left_len {l : Cx} (G : GoodX l) {x : Cl} (hx : PairOk l x) (k : Nat) : (allC (leftC l x) k).length + (if k = x.1.length then 1 else 0) + (if k = x.2.length then 1 else 0) = (allC l k).length := by
  have hne : x.1 ≠ x.2 := fun e => by have := hx.len; rw [e] at this; omega
  have a2 := (chkV_zero.1 hx.chk2).2.2.2
  have a1 := (chkV_zero.1 hx.chk1).2.2.2
  have h := count_out (allC_asc l k).nodup hne
  rw [← left_all G hx] at h
  have e1 : (x.1 ∈ allC l k) ↔ k = x.1.length := by
    rw [all_iff G.asc]
    exact ⟨fun q => q.2.1.symm, fun q => ⟨a1, q.symm, hasC_iff.2 ⟨x.2, hx.mem, (sub_inside a1 a2).1 hx.sub⟩⟩⟩
  have e2 : (x.2 ∈ allC l k) ↔ k = x.2.length := by
    rw [all_iff G.asc]
    exact ⟨fun q => q.2.1.symm, fun q => ⟨a2, q.symm, hasC_iff.2 ⟨x.2, hx.mem, inside_self _⟩⟩⟩
  simp only [e1, e2] at h
  exact h
def wholeN (l : Cx) (k : Nat) : Nat := ((List.range k).map fun i => (allC l (i + 1)).length).sum
theorem wholeN_succ (l : Cx) (k : Nat) : wholeN l (k + 1) = wholeN l k + (allC l (k + 1)).length := by
  unfold wholeN
  rw [List.range_succ, List.map_append, List.sum_append]
  simp
theorem wholeN_up (l : Cx) : ∀ k, (upC l k).length = wholeN l k
  | 0 => rfl
  | k + 1 => by
    rw [wholeN_succ, ← wholeN_up l k]
    show (upC l k ++ allC l (k + 1)).length = _
    rw [List.length_append]
theorem few_whole {l : Cx} (hl : AscL l) (hc : ∀ s ∈ l, chkV s = 0) : l.length ≤ wholeN l 8 := by
  rw [← wholeN_up]
  refine List.Nodup.length_le_of_subset hl.nodup fun s hs => upC_mem.2 ⟨s.length, ?_, ?_, allC_mem.2 ⟨s, hs, (subsV_mem _ _ _).2 ⟨List.Sublist.refl _, rfl⟩⟩⟩
  · exact (chk_len (hc s hs)).1
  · exact (chk_len (hc s hs)).2
theorem left_whole {l : Cx} (G : GoodX l) {x : Cl} (hx : PairOk l x) : ∀ n, wholeN (leftC l x) n + (if x.1.length ≤ n then 1 else 0) + (if x.2.length ≤ n then 1 else 0) = wholeN l n
  | 0 => by
    have h1 := chk_len hx.chk1
    have h2 := chk_len hx.chk2
    rw [if_neg (by omega), if_neg (by omega)]
    rfl
  | n + 1 => by
    have h := left_whole G hx n
    have k := left_len G hx (n + 1)
    have ln := hx.len
    rw [wholeN_succ, wholeN_succ]
    by_cases a : n + 1 = x.1.length
    · rw [if_pos a, if_neg (by omega)] at k
      rw [if_neg (by omega), if_neg (by omega)] at h
      rw [if_pos (by omega), if_neg (by omega)]
      omega
    · by_cases b : n + 1 = x.2.length
      · rw [if_neg a, if_pos b] at k
        rw [if_pos (by omega), if_neg (by omega)] at h
        rw [if_pos (by omega), if_pos (by omega)]
        omega
      · rw [if_neg a, if_neg b] at k
        by_cases c : x.1.length ≤ n
        · rw [if_pos c, if_pos (by omega)] at h
          rw [if_pos (by omega), if_pos (by omega)]
          omega
        · rw [if_neg c, if_neg (by omega)] at h
          rw [if_neg (by omega), if_neg (by omega)]
          omega
theorem left_two {l : Cx} (G : GoodX l) {x : Cl} (hx : PairOk l x) : wholeN (leftC l x) 8 + 2 = wholeN l 8 := by
  have h := left_whole G hx 8
  rw [if_pos (chk_len hx.chk1).2, if_pos (chk_len hx.chk2).2] at h
  omega
theorem left_good {l : Cx} (G : GoodX l) {x : Cl} (hx : PairOk l x) (hw : wholeN l 8 ≤ 4098) : GoodX (leftC l x) := by
  refine good_max (fun s hs _ => left_src G hx s hs) ?_
  have h1 := few_whole (maxC_asc _) (left_chk G hx)
  have h2 := left_two G hx
  unfold leftC at h1 h2
  omega
def redC : Nat → Cx → Cx × List Cl
  | 0, l => (l, [])
  | n + 1, l => match pairsC l with
    | [] => (l, [])
    | x :: _ => ((redC n (leftC l x)).1, x :: (redC n (leftC l x)).2)
theorem redC_nil {l : Cx} (h : pairsC l = []) : ∀ n, redC n l = (l, [])
  | 0 => rfl
  | n + 1 => by unfold redC; rw [h]
theorem redC_cons {l : Cx} {x : Cl} {t : List Cl} (h : pairsC l = x :: t) (n : Nat) : redC (n + 1) l = ((redC n (leftC l x)).1, x :: (redC n (leftC l x)).2) := by
  show (match pairsC l with | [] => (l, []) | x :: _ => ((redC n (leftC l x)).1, x :: (redC n (leftC l x)).2)) = _
  rw [h]
def reducedC (l : Cx) : Cx × List Cl := redC 4096 l
end Go.Proofs.YtjbepoofigokjaaGreat
namespace Go.Proofs.YtjbepoofigokjaaGreat
def shareB (s t : List Vx) : Bool := decide (0 < (sharedV s t true).length)
theorem share_iff {s t : List Vx} : shareB s t = true ↔ ∃ v, v ∈ s ∧ v ∈ t := by
  unfold shareB sharedV
  rw [decide_eq_true_iff, List.length_pos_iff_exists_mem]
  constructor
  · rintro ⟨v, hv⟩
    have := List.mem_filter.1 hv
    exact ⟨v, this.1, by simpa using this.2⟩
  · rintro ⟨v, h1, h2⟩
    exact ⟨v, List.mem_filter.2 ⟨h1, by simpa using h2⟩⟩
def outN (l : Cx) (i : Nat) : List Int := l.map fun s => if rootC l s ∈ distG ((rootsC l).take i) then (numC l s : Int) else -1
def nextN (l : Cx) (i : Nat) : Nat := (distG ((rootsC l).take i)).length
theorem outN_len (l : Cx) (i : Nat) : (outN l i).length = l.length := by simp [outN]
theorem outN_at {l : Cx} {i t : Nat} (h : t < l.length) (h' : t < (outN l i).length) : (outN l i)[t] = if rootC l l[t] ∈ distG ((rootsC l).take i) then (numC l l[t] : Int) else -1 := by simp [outN]
theorem outN_zero (l : Cx) : outN l 0 = List.replicate l.length (-1) := by
  unfold outN
  rw [List.eq_replicate_iff]
  refine ⟨by simp, fun b hb => ?_⟩
  obtain ⟨s, _, rfl⟩ := List.mem_map.1 hb
  rw [if_neg (by simp [distG])]
theorem outN_all (l : Cx) : outN l l.length = compC l := by
  unfold outN compC
  refine List.map_congr_left fun s hs => ?_
  rw [List.take_of_length_le (by simp [rootsC]), if_pos (root_mem hs)]
theorem roots_at {l : Cx} {i : Nat} (h : i < l.length) : (rootsC l)[i]'(by simpa [rootsC] using h) = rootC l l[i] := by simp [rootsC]
theorem dist_next {l : Cx} {i : Nat} (h : i < l.length) : distG ((rootsC l).take (i + 1)) = if rootC l l[i] ∈ distG ((rootsC l).take i) then distG ((rootsC l).take i) else distG ((rootsC l).take i) ++ [rootC l l[i]] := by
  have := dist_snoc (rs := rootsC l) (k := i) (by simpa [rootsC] using h)
  rw [roots_at h] at this
  by_cases hm : rootC l l[i] ∈ distG ((rootsC l).take i)
  · rw [if_pos hm] at this ⊢; exact this
  · rw [if_neg hm] at this ⊢; exact this
theorem num_of_mem {l : Cx} {i : Nat} {s : List Vx} (h : rootC l s ∈ distG ((rootsC l).take i)) : numC l s < nextN l i := by
  obtain ⟨t, ht⟩ := dist_pre ((rootsC l).take i) ((rootsC l).drop i)
  rw [List.take_append_drop] at ht
  unfold numC nextN
  rw [ht, idx_app_mem h]
  exact idx_lt h
theorem outN_skip {l : Cx} {i : Nat} (h : i < l.length) (h' : i < (outN l i).length) (h0 : 0 ≤ (outN l i)[i]) : outN l (i + 1) = outN l i ∧ nextN l (i + 1) = nextN l i := by
  rw [outN_at h] at h0
  have hm : rootC l l[i] ∈ distG ((rootsC l).take i) := by
    by_cases h1 : rootC l l[i] ∈ distG ((rootsC l).take i)
    · exact h1
    · rw [if_neg h1] at h0; omega
  have := dist_next h
  rw [if_pos hm] at this
  unfold outN nextN
  rw [this]
  exact ⟨rfl, rfl⟩
theorem outN_new {l : Cx} {i : Nat} (h : i < l.length) (h' : i < (outN l i).length) (h0 : (outN l i)[i] < 0) : rootC l l[i] ∉ distG ((rootsC l).take i) ∧ nextN l (i + 1) = nextN l i + 1 ∧ numC l l[i] = nextN l i := by
  rw [outN_at h] at h0
  have hm : rootC l l[i] ∉ distG ((rootsC l).take i) := fun h1 => by rw [if_pos h1] at h0; omega
  refine ⟨hm, ?_, ?_⟩
  · unfold nextN
    rw [dist_next h, if_neg hm, List.length_append]; rfl
  · rw [num_at h, idx_none hm]; rfl
structure Mid (l : Cx) (i : Nat) (o : List Int) : Prop where
  len : o.length = l.length
  each : ∀ (t : Nat) (h : t < l.length) (h' : t < o.length), o[t] = (outN l i)[t]'(by rw [outN_len]; exact h) ∨ (o[t] = (nextN l i : Int) ∧ ∃ hi : i < l.length, rootC l l[t] = rootC l l[i])
  own : ∀ (h' : i < o.length), o[i] = (nextN l i : Int)
theorem outN_lt {l : Cx} {i t : Nat} (h : t < l.length) (h' : t < (outN l i).length) : (outN l i)[t] < (nextN l i : Int) ∧ -1 ≤ (outN l i)[t] := by
  rw [outN_at h]
  by_cases h1 : rootC l l[t] ∈ distG ((rootsC l).take i)
  · rw [if_pos h1]
    have := num_of_mem h1
    omega
  · rw [if_neg h1]; omega
theorem Mid.start {l : Cx} {i : Nat} (h : i < l.length) : Mid l i ((outN l i).set i (nextN l i : Int)) :=
  ⟨by rw [List.length_set, outN_len], fun t h1 h2 => by
    rw [List.getElem_set]
    by_cases hit : i = t
    · subst hit; rw [if_pos rfl]; exact .inr ⟨rfl, h, rfl⟩
    · rw [if_neg hit]; exact .inl rfl, fun h' => by rw [List.getElem_set, if_pos rfl]⟩
theorem Mid.root {l : Cx} {i : Nat} {o : List Int} (M : Mid l i o) {t : Nat} (h : t < l.length) (h' : t < o.length) (hi : i < l.length) (ho : o[t] = (nextN l i : Int)) : rootC l l[t] = rootC l l[i] := by
  rcases M.each t h h' with h1 | ⟨_, _, h2⟩
  · have := (outN_lt (i := i) h (by rw [outN_len]; exact h)).1
    omega
  · exact h2
theorem Mid.set {l : Cx} {i : Nat} {o : List Int} (M : Mid l i o) (hi : i < l.length) {j k : Nat} (hj : j < l.length) (hk : k < l.length) (hk' : k < o.length) (ho : o[k] = (nextN l i : Int)) (hs : shareB l[j] l[k] = true) : Mid l i (o.set j (nextN l i : Int)) :=
  ⟨by rw [List.length_set, M.len], fun t h1 h2 => by
    have h2' : t < o.length := by simpa using h2
    rw [List.getElem_set]
    by_cases hjt : j = t
    · subst hjt
      rw [if_pos rfl]
      obtain ⟨v, v1, v2⟩ := share_iff.1 hs
      refine .inr ⟨rfl, hi, ?_⟩
      rw [root_shared (List.getElem_mem hj) (List.getElem_mem hk) v1 v2]
      exact M.root hk hk' hi ho
    · rw [if_neg hjt]; exact M.each t h1 h2', fun h' => by
    rw [List.getElem_set]
    by_cases hji : j = i
    · rw [if_pos hji]
    · rw [if_neg hji]; exact M.own _⟩
def negN (o : List Int) : Nat := (o.filter fun x => decide (x < 0)).length
theorem negN_set : ∀ {o : List Int} {j : Nat} {m : Int} (h : j < o.length), o[j] < 0 → 0 ≤ m → negN (o.set j m) + 1 = negN o
  | x :: o, 0, m, _, h1, h2 => by
    have h1' : x < 0 := h1
    unfold negN
    rw [List.set_cons_zero, List.filter_cons_of_neg (by simpa using h2), List.filter_cons_of_pos (by simpa using h1')]
    rfl
  | x :: o, j + 1, m, h, h1, h2 => by
    have ih := negN_set (o := o) (j := j) (m := m) (by simpa using h) h1 h2
    unfold negN at ih ⊢
    rw [List.set_cons_succ]
    by_cases hx : x < 0
    · rw [List.filter_cons_of_pos (by simpa using hx), List.filter_cons_of_pos (by simpa using hx), List.length_cons, List.length_cons]; omega
    · rw [List.filter_cons_of_neg (by simpa using hx), List.filter_cons_of_neg (by simpa using hx)]; exact ih
def Shut (l : Cx) (i : Nat) (o : List Int) (j k : Nat) : Prop := ∀ (h1 : j < l.length) (h2 : k < l.length) (h3 : j < o.length) (h4 : k < o.length), o[j] < 0 → o[k] = (nextN l i : Int) → shareB l[j] l[k] = false
theorem Mid.fin {l : Cx} {i : Nat} {o : List Int} (M : Mid l i o) (hne : ∀ s ∈ l, 0 < s.length) (hi : i < l.length) (h0 : (outN l i)[i]'(by rw [outN_len]; exact hi) < 0) (hc : ∀ j k, j < l.length → k < l.length → Shut l i o j k) : o = outN l (i + 1) := by
  obtain ⟨n1, n2, n3⟩ := outN_new hi (by rw [outN_len]; exact hi) h0
  have hlen := M.len
  have key : ∀ {w : Vx}, Conn (edgC l) (hdV l[i]) w → ∃ (k : Nat) (h1 : k < l.length) (h2 : k < o.length), o[k] = (nextN l i : Int) ∧ w ∈ l[k] := by
    intro w hw
    induction hw with
    | refl => exact ⟨i, hi, by omega, M.own _, hd_mem (hne _ (List.getElem_mem hi))⟩
    | step h e ih =>
      rename_i v w
      obtain ⟨k, k1, k2, k3, k4⟩ := ih
      have hf : ∃ f ∈ l, v ∈ f ∧ w ∈ f := by
        rcases e with e | e
        · obtain ⟨f, hf, e1, e2⟩ := edgC_mem.1 e
          have e1' : v = hdV f := e1
          exact ⟨f, hf, e1' ▸ hd_mem (hne f hf), List.mem_of_mem_drop e2⟩
        · obtain ⟨f, hf, e1, e2⟩ := edgC_mem.1 e
          have e1' : w = hdV f := e1
          exact ⟨f, hf, List.mem_of_mem_drop e2, e1' ▸ hd_mem (hne f hf)⟩
      obtain ⟨f, hf, f1, f2⟩ := hf
      obtain ⟨g, hg, rfl⟩ := List.getElem_of_mem hf
      refine ⟨g, hg, by omega, ?_, f2⟩
      rcases M.each g hg (by omega) with h5 | ⟨h5, _⟩
      · exfalso
        have hr : rootC l l[g] = rootC l l[i] := by
          rw [← rep_in hf f1]
          exact ((conn_iff (edgC l) _ _).2 h).symm
        rw [outN_at hg, hr, if_neg n1] at h5
        have h6 := hc g k hg k1 hg k1 (by omega) k2 (by omega) k3
        have h7 : shareB l[g] l[k] = true := share_iff.2 ⟨v, f1, k4⟩
        rw [h6] at h7; cases h7
      · exact h5
  apply List.ext_getElem (by rw [hlen, outN_len])
  intro t t1 t2
  have ht : t < l.length := by omega
  rw [outN_at ht, dist_next hi, if_neg n1]
  by_cases hr : rootC l l[t] = rootC l l[i]
  · rw [if_pos (by rw [hr]; simp)]
    have hn : numC l l[t] = nextN l i := by rw [← n3]; unfold numC; rw [hr]
    rw [hn]
    rcases M.each t ht t1 with h5 | ⟨h5, _⟩
    · exfalso
      rw [outN_at ht, hr, if_neg n1] at h5
      obtain ⟨k, k1, k2, k3, k4⟩ := key ((conn_iff (edgC l) (hdV l[i]) (hdV l[t])).1 hr.symm)
      have h6 := hc t k ht k1 ht k1 t1 k2 (by omega) k3
      have h7 : shareB l[t] l[k] = true := share_iff.2 ⟨_, hd_mem (hne _ (List.getElem_mem ht)), k4⟩
      rw [h6] at h7; cases h7
    · exact h5
  · have hm : (rootC l l[t] ∈ distG ((rootsC l).take i) ++ [rootC l l[i]]) ↔ rootC l l[t] ∈ distG ((rootsC l).take i) := by
      rw [List.mem_append, List.mem_singleton]
      exact ⟨fun h => h.resolve_right hr, .inl⟩
    rcases M.each t ht t1 with h5 | ⟨_, _, h6⟩
    · rw [h5, outN_at ht]
      by_cases h7 : rootC l l[t] ∈ distG ((rootsC l).take i)
      · rw [if_pos h7, if_pos (hm.2 h7)]
      · rw [if_neg h7, if_neg fun h => h7 (hm.1 h)]
    · exact absurd h6 hr
end Go.Proofs.YtjbepoofigokjaaGreat
namespace Go.Proofs.YtjbepoofigokjaaGreat
open Go.RowKit
section
variable {P : Program} {ops : Array Oper} {md : Region.Mode} {fr fr' : List Dat} {hp : List HObj} {C : List HObj → Prop}
def rdB (md : Region.Mode) (ops : Array Oper) (n : Nat) : List Nat → Array Bool → Bool
  | [], _ => true
  | i :: r, listed => decide (i < n) && (Region.ready md ops listed).contains i && Region.free md ops listed i && rdB md ops n r (listed.setIfInBounds i true)
inductive WRd (P : Program) (ops : Array Oper) (C : List HObj → Prop) (Q : List Dat → Prop) : List Nat → List Dat → Prop
  | nil {fr : List Dat} : Q fr → WRd P ops C Q [] fr
  | read {i : Nat} {o : Oper} {r : List Nat} {fr : List Dat} {d : Dat} : ops[i]? = some o → (∀ hp', C hp' → SYG P ops hp' o fr d) → WRd P ops C Q r (setD fr o.dst d) → WRd P ops C Q (i :: r) fr
theorem wpAnyM_rd {n f0 : Nat} {L : Array Bool → List Dat → List HObj → Prop} {Q : List Dat → Prop} (hs : Region.sinkB md ops n = true) (hc : chainB2 md ops n = true) (hn : n < ops.size) (hdone : ∀ listed a c, L listed a c → ∀ j ∈ Region.ready md ops listed, n ≤ j) :
    ∀ (l : List Nat) (listed : Array Bool) (fr : List Dat), HeadInv md ops n listed → rdB md ops n l listed = true → WRd P ops C Q l fr → (∀ fr', Q fr' → HeadInv md ops n (l.foldl (fun s i => s.setIfInBounds i true) listed) → wpAnyM P md ops C n L f0 (l.foldl (fun s i => s.setIfInBounds i true) listed) fr' hp) →
    wpAnyM P md ops C n L (f0 + l.length) listed fr hp
  | [], listed, fr, inv, _, h, hk => by
    cases h
    rename_i h
    exact hk _ h inv
  | i :: r, listed, fr, inv, hB, h, hk => by
    cases h
    rename_i o d ho hy hr
    simp only [rdB, Bool.and_eq_true, decide_eq_true_eq] at hB
    obtain ⟨⟨⟨hin, hrd⟩, hf⟩, hB'⟩ := hB
    have hr' : i ∈ Region.ready md ops listed := by simpa using hrd
    have := wpAnyM_first ho hs hc hn hin hdone (f0 + r.length) listed fr hp inv (Region.free_spec ho hf) hr' hy (wpAnyM_rd hs hc hn hdone r _ _ (inv.set hr' hin) hB' hr hk)
    rw [List.length_cons, ← Nat.add_assoc]
    exact this
structure W2 (P : Program) (ops : Array Oper) (C : List HObj → Prop) (R : List Dat → List HObj → Prop) (i j : Nat) (fr : List Dat) (hp : List HObj) : Prop where
  out : ∃ oi oj, ops[i]? = some oi ∧ ops[j]? = some oj ∧ ∃ (β : Type) (H : β → List HObj) (D : β → Dat), SW P ops hp H D oi fr ∧ (∀ x, C (H x)) ∧ ∀ x, ∃ (γ : Type) (H2 : γ → List HObj) (D2 : γ → Dat), SW P ops (H x) H2 D2 oj (setD fr oi.dst (D x)) ∧ (∀ y, C (H2 y)) ∧ ∀ y, R (setD (setD fr oi.dst (D x)) oj.dst (D2 y)) (H2 y)
theorem W2.mk' {R : List Dat → List HObj → Prop} {i j : Nat} {oi oj : Oper} {l : List Oper} (hi : l[i]? = some oi) (hj : l[j]? = some oj) {β : Type} {H : β → List HObj} {D : β → Dat} (h : SW P l.toArray hp H D oi fr) (hC : ∀ x, C (H x)) {γ : Type} {H2 : β → γ → List HObj} {D2 : β → γ → Dat}
    (h2 : ∀ x, SW P l.toArray (H x) (H2 x) (D2 x) oj (setD fr oi.dst (D x))) (hC2 : ∀ x y, C (H2 x y)) (k : ∀ x y, R (setD (setD fr oi.dst (D x)) oj.dst (D2 x y)) (H2 x y)) : W2 P l.toArray C R i j fr hp :=
  ⟨oi, oj, by simpa using hi, by simpa using hj, β, H, D, h, hC, fun x => ⟨γ, H2 x, D2 x, h2 x, hC2 x, k x⟩⟩
theorem wpAnyM_w2 {n i j : Nat} {R : List Dat → List HObj → Prop} {listed : Array Bool} {S : Array Bool} (hi : i < n) (hj : j < n) (hr : Region.ready md ops listed = [i, j]) (hri : Region.ready md ops (listed.setIfInBounds i true) = [j]) (hrj : Region.ready md ops (listed.setIfInBounds j true) = [i])
    (hS : (listed.setIfInBounds i true).setIfInBounds j true = S) (hS' : (listed.setIfInBounds j true).setIfInBounds i true = S) (hfin : ∀ k ∈ Region.ready md ops S, n ≤ k) (h1 : W2 P ops C R i j fr hp) (h2 : W2 P ops C R j i fr hp) :
    wpAnyM P md ops C n (fun listed' f p => (∀ k ∈ Region.ready md ops listed', n ≤ k) ∧ listed' = S ∧ R f p) 2 listed fr hp := by
  refine ⟨fun h0 => (by rw [hr] at h0; cases h0), fun k hk => ?_⟩
  rw [hr] at hk
  rcases List.mem_cons.1 hk with rfl | hk
  · obtain ⟨oi, oj, e1, e2, β, H, D, w1, c1, k1⟩ := h1.out
    refine ⟨hi, oi, e1, .inr ⟨β, H, D, w1, c1, fun x => ?_⟩⟩
    obtain ⟨γ, H2, D2, w2, c2, k2⟩ := k1 x
    refine ⟨fun h0 => (by rw [hri] at h0; cases h0), fun m hm => ?_⟩
    rw [hri] at hm
    cases List.mem_singleton.1 hm
    exact ⟨hj, oj, e2, .inr ⟨γ, H2, D2, w2, c2, fun y => ⟨by rw [hS]; exact hfin, hS, k2 y⟩⟩⟩
  · cases List.mem_singleton.1 hk
    obtain ⟨oi, oj, e1, e2, β, H, D, w1, c1, k1⟩ := h2.out
    refine ⟨hj, oi, e1, .inr ⟨β, H, D, w1, c1, fun x => ?_⟩⟩
    obtain ⟨γ, H2, D2, w2, c2, k2⟩ := k1 x
    refine ⟨fun h0 => (by rw [hrj] at h0; cases h0), fun m hm => ?_⟩
    rw [hrj] at hm
    cases List.mem_singleton.1 hm
    exact ⟨hi, oj, e2, .inr ⟨γ, H2, D2, w2, c2, fun y => ⟨by rw [hS']; exact hfin, hS', k2 y⟩⟩⟩
def drawB2 (md : Region.Mode) (ops : Array Oper) (n : Nat) (rds : List Nat) (i j : Nat) : Bool :=
  let s := rds.foldl (fun s i => s.setIfInBounds i true) (Array.replicate ops.size false)
  decide (n < ops.size) && Region.sinkB md ops n && chainB2 md ops n && rdB md ops n rds (Array.replicate ops.size false) && decide (i < n) && decide (j < n) && decide (Region.ready md ops s = [i, j]) && decide (Region.ready md ops (s.setIfInBounds i true) = [j]) && decide (Region.ready md ops (s.setIfInBounds j true) = [i]) &&
    (Region.ready md ops ((s.setIfInBounds i true).setIfInBounds j true)).all (fun k => decide (n ≤ k)) && decide (i ≠ j)
theorem WC.draw2 {id : Nat} {l : List Oper} {Q : Post} (C : List HObj → Prop) (n m : Nat) (rds : List Nat) (i j : Nat) (S : List Bool) (hm : P.follows .mixedOrders = true)
    (hB : drawB2 .any l.toArray n rds i j = true) (hS : ((rds.foldl (fun s i => s.setIfInBounds i true) (Array.replicate l.toArray.size false)).setIfInBounds i true).setIfInBounds j true = S.toArray) (hlen : l.length = rds.length + 2 + m) (hC : C hp)
    (h : WRd P l.toArray C (fun f => W2 P l.toArray C (fun f p => WA P l.toArray Q m S f p) i j f hp ∧ W2 P l.toArray C (fun f p => WA P l.toArray Q m S f p) j i f hp) rds fr) : WC P Q (.region id l.toArray true) fr hp := by
  refine WC.of fun P0 B w0 w a hh hf => ?_
  simp only [drawB2, Bool.and_eq_true, decide_eq_true_eq, List.all_eq_true] at hB
  obtain ⟨⟨⟨⟨⟨⟨⟨⟨⟨⟨hn, hs⟩, hc⟩, hord⟩, hin⟩, hjn⟩, hr⟩, hri⟩, hrj⟩, hfin⟩, hij⟩ := hB
  have inv0 : HeadInv .any l.toArray n (Array.replicate l.toArray.size false) :=
    ⟨by simp, fun j oj _ hl => (by rw [getD_replicate_false] at hl; cases hl), fun t _ ht => getD_in (by simpa using ht) (getD_replicate_false _ _)⟩
  have HW := wpAnyM_rd (f0 := 2) (hp := hp) (L := fun listed' f p => (∀ k ∈ Region.ready .any l.toArray listed', n ≤ k) ∧ listed' = S.toArray ∧ WA P l.toArray Q m S f p) hs hc hn (fun _ _ _ hL => hL.1) rds _ fr inv0 hord h fun fr' hq _ =>
    wpAnyM_w2 hin hjn hr hri hrj hS (by rw [Array.setIfInBounds_comm _ _ (Ne.symm hij)]; exact hS) (by rw [← hS]; exact hfin) hq.1 hq.2
  have hx : Ext w { w with drawn := w.drawn + 1 } := (Ext.refl w).drew
  refine wp_region_any hm ?_
  have := wpAny_of_headM (Q' := lift Q P0 B w0) (g := m) _ _ _ hp _ _ hC (hh.ext hx) (hf.ext hx) (fun listed' fr' hp' a' w' hh' hf' hL => by
    rw [hL.2.1]
    exact hL.2.2.out _ _ _ _ _ hh' hf') HW
  rw [show l.toArray.size = 2 + rds.length + m by simp; omega]
  rw [show (l.toArray.size) = 2 + rds.length + m by simp; omega] at this
  exact this
theorem WRd.readL {l : List Oper} {Q : List Dat → Prop} {i : Nat} {o : Oper} {r : List Nat} {d : Dat} (ho : l[i]? = some o) (h : ∀ hp', C hp' → SYG P l.toArray hp' o fr d) (k : WRd P l.toArray C Q r (setD fr o.dst d)) : WRd P l.toArray C Q (i :: r) fr := WRd.read (by simpa using ho) h k
theorem W2.id {R : List Dat → List HObj → Prop} {i j : Nat} (h : W2 P ops C R i j fr hp) : W2 P ops C R i j fr hp := h
theorem WRd.id {Q : List Dat → Prop} {r : List Nat} (h : WRd P ops C Q r fr) : WRd P ops C Q r fr := h
theorem SW.alloc {dst : Option Tmp} {ty : TypeId} {ps : String} {af : Array Edge} {T : TypeId} {n : Nat} {agg : Bool} {z : Value} (hz : TyZ P T z) (hs : (dX z).Shape n agg) :
    SW P ops hp (fun b : Nat => hCell b T n agg (dX z) :: hp) (fun b => dX (.pointer (some ⟨b, 0, none⟩))) { dst := dst, op := .alloc T, type := ty, pos := ps, after := af, guard := none } fr := ⟨rfl, fun {P0 B w0 w a} hh ho K Q hk => by
  obtain ⟨cs, k1, k0, k2, k3, k4⟩ := hs (fun _ => True) w z rfl
  have hrun : (execOp a.eval { dst := dst, op := .alloc T, type := ty, pos := ps, after := af, guard := none }).run P w = .ok (.value (.pointer (some ⟨w.heap.size, 0, none⟩))) (w.alloc (.cells cs.toArray T)) := by
    cases hq : P.info? T with
    | none => have := hz.out; simp [hq] at this
    | some i =>
      have hz' : i.zero = some z := by have := hz.out; simpa [hq] using this
      unfold execOp
      simp [Instr.alloc, zeroValue, typeInfo, hq, hz', newVar, newRow, k3]
  unfold Oper.wp
  rw [hrun]
  have hx := Ext.of_alloc w (.cells cs.toArray T)
  have hb : ∀ k, (hCell w.heap.size T n agg (dX z)).blk = some k → w.heap.size ≤ k ∧ k < (w.alloc (.cells cs.toArray T)).heap.size := fun k hk => by
    cases hk
    exact ⟨Nat.le_refl _, by simp⟩
  exact hk w.heap.size _ _ (hh.push hx hb ⟨cs, z, alloc_get w _, k1, k0, k2, k4, rfl⟩) (fun d u hd => Hp.pushed hx (fun k hk => (hb k hk).1) hd) rfl⟩
end
end Go.Proofs.YtjbepoofigokjaaGreat
