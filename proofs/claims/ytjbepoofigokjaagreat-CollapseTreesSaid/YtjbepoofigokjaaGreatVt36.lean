/-
  Part 36 of the texts that the claims of this seat lean on: walks of the program's functions by contracts over symbolic frames, and plain laws of what they compute. No condition.
-/
import Derived.Ground.Names8Prog
import Derived.Shelf.Spec.SlicesGrow
import Derived.Test.YtjbepoofigokjaaGreatProg
import Derived.Test.YtjbepoofigokjaaGreatVt9
import Derived.Test.YtjbepoofigokjaaGreatVt11
import Derived.Test.YtjbepoofigokjaaGreatVt14
import Derived.Test.YtjbepoofigokjaaGreatVt19
import Derived.Test.YtjbepoofigokjaaGreatVt21
import Derived.Test.YtjbepoofigokjaaGreatVt22
import Derived.Test.YtjbepoofigokjaaGreatVt23
import Derived.Test.YtjbepoofigokjaaGreatVt29
import Derived.Test.YtjbepoofigokjaaGreatVt33
import Derived.Test.YtjbepoofigokjaaGreatVt35
set_option linter.unusedVariables false
set_option linter.unusedSimpArgs false
set_option linter.unusedSectionVars false
namespace Go.Proofs.YtjbepoofigokjaaGreat
theorem dbl_count {α β : Type} (R : α → β → Bool) : ∀ (A : List α) (B : List β), (A.map fun a => (B.filter (R a)).length).sum = (B.map fun b => (A.filter fun a => R a b).length).sum
  | [], B => by
    induction B with
    | nil => rfl
    | cons b B ih => rw [List.map_cons, List.sum_cons, ← ih]; rfl
  | a :: A, B => by
    rw [List.map_cons, List.sum_cons, dbl_count R A B]
    clear dbl_count
    induction B with
    | nil => rfl
    | cons b B ih =>
      rw [List.map_cons, List.sum_cons, List.map_cons, List.sum_cons, ← ih]
      by_cases h : R a b = true
      · rw [List.filter_cons_of_pos h, List.filter_cons_of_pos (by exact h), List.length_cons, List.length_cons]; omega
      · rw [List.filter_cons_of_neg h, List.filter_cons_of_neg (by exact h)]; omega
theorem sum_ge {α : Type} {f : α → Nat} {n : Nat} : ∀ {A : List α}, (∀ a ∈ A, n ≤ f a) → n * A.length ≤ (A.map f).sum
  | [], _ => Nat.le_refl _
  | a :: A, h => by
    have h1 := h a (List.mem_cons_self ..)
    have h2 := sum_ge (A := A) fun b hb => h b (List.mem_cons_of_mem _ hb)
    rw [List.map_cons, List.sum_cons, List.length_cons, Nat.mul_succ]
    omega
theorem sum_is {α : Type} {f : α → Nat} {n : Nat} : ∀ {A : List α}, (∀ a ∈ A, f a = n) → (A.map f).sum = n * A.length
  | [], _ => rfl
  | a :: A, h => by
    have h1 := h a (List.mem_cons_self ..)
    have h2 := sum_is (A := A) fun b hb => h b (List.mem_cons_of_mem _ hb)
    rw [List.map_cons, List.sum_cons, List.length_cons, Nat.mul_succ, h1, h2]
    omega
theorem conn_first {V : Type} {es : List (V × V)} {u w : V} (h : Conn es u w) : u = w ∨ ∃ x, (u, x) ∈ es ∨ (x, u) ∈ es := by
  induction h with
  | refl => exact .inl rfl
  | step h e ih =>
    rcases ih with rfl | ih
    · exact .inr ⟨_, e⟩
    · exact .inr ih
theorem all_none {d : Cx} (h2 : ∀ s ∈ d, s.length ≤ 2) {k : Nat} (hk : 2 < k) : allC d k = [] := by
  refine List.eq_nil_iff_forall_not_mem.2 fun x hx => ?_
  obtain ⟨f, hf, hm⟩ := allC_mem.1 hx
  obtain ⟨h3, h4⟩ := (subsV_mem _ _ _).1 hm
  have := h3.length_le
  have := h2 f hf
  omega
theorem eul_two {d : Cx} (h2 : ∀ s ∈ d, s.length ≤ 2) : eulS d 8 = ((allC d 1).length : Int) - ((allC d 2).length : Int) := by
  have h := fun k (hk : 2 < k) => congrArg List.length (all_none h2 hk)
  simp only [eulS_sgn, h 3 (by decide), h 4 (by decide), h 5 (by decide), h 6 (by decide), h 7 (by decide), h 8 (by decide), List.length_nil, show eulS d 0 = 0 from rfl, show sgnI (0 + 1) = 1 from rfl, show sgnI (1 + 1) = -1 from rfl, show allC d (0 + 1) = allC d 1 from rfl, show allC d (1 + 1) = allC d 2 from rfl]
  omega
theorem whole_two {d : Cx} (h2 : ∀ s ∈ d, s.length ≤ 2) : wholeN d 8 = (allC d 1).length + (allC d 2).length := by
  have h := fun k (hk : 2 < k) => congrArg List.length (all_none h2 hk)
  simp only [wholeN_succ, h 3 (by decide), h 4 (by decide), h 5 (by decide), h 6 (by decide), h 7 (by decide), h 8 (by decide), List.length_nil, show wholeN d 0 = 0 from rfl, show allC d (0 + 1) = allC d 1 from rfl, show allC d (1 + 1) = allC d 2 from rfl]
  omega
theorem parts_one {d : Cx} (hp : partsN d = 1) {s t : List Vx} (hs : s ∈ d) (ht : t ∈ d) : rootC d s = rootC d t := by
  have h1 := root_mem hs
  have h2 := root_mem ht
  obtain ⟨r, hr⟩ := List.length_eq_one_iff.1 (show (distG (rootsC d)).length = 1 from hp)
  rw [hr, List.mem_singleton] at h1 h2
  rw [h1, h2]
theorem graph_point {d : Cx} (G : GoodX d) (h2 : ∀ s ∈ d, s.length ≤ 2) (hpr : pairsC d = []) (hp : partsN d = 1) (he : eulS d 8 = 1) : ∃ u, d = [[u]] := by
  have hne : d ≠ [] := fun e => by subst e; cases hp
  have hone : ∀ s ∈ d, ∀ t ∈ d, Conn (edgC d) (hdV s) (hdV t) := fun s hs t ht => (conn_iff (edgC d) _ _).1 (parts_one hp hs ht)
  have hedge : ∀ a b, (a, b) ∈ edgC d → ∃ f ∈ d, a ∈ f ∧ b ∈ f ∧ 2 ≤ f.length := fun a b h => by
    obtain ⟨f, hf, h1, h3⟩ := edgC_mem.1 h
    have hb : b ∈ f := List.mem_of_mem_drop h3
    refine ⟨f, hf, by rw [show a = hdV f from h1]; exact hd_mem (List.length_pos_of_mem hb), hb, ?_⟩
    have := List.length_pos_of_mem h3
    rw [List.length_drop] at this
    omega
  by_cases hall : ∀ s ∈ d, s.length = 1
  · have heq : ∀ s ∈ d, ∀ t ∈ d, s = t := fun s hs t ht => by
      obtain ⟨a, rfl⟩ := List.length_eq_one_iff.1 (hall s hs)
      obtain ⟨b, rfl⟩ := List.length_eq_one_iff.1 (hall t ht)
      rcases conn_first (hone _ hs _ ht) with h | ⟨x, h⟩
      · have : a = b := h
        rw [this]
      · rcases h with h | h
        · obtain ⟨f, hf, _, _, hl⟩ := hedge _ _ h
          have := hall f hf
          omega
        · obtain ⟨f, hf, _, _, hl⟩ := hedge _ _ h
          have := hall f hf
          omega
    obtain ⟨s, hs⟩ := List.exists_mem_of_ne_nil _ hne
    have hl : d.length ≤ [s].length := List.Nodup.length_le_of_subset G.2.1.nodup fun t ht => by rw [heq t ht s hs]; exact List.mem_singleton_self _
    have := List.length_pos_iff.2 hne
    rw [List.length_singleton] at hl
    obtain ⟨t, rfl⟩ := List.length_eq_one_iff.1 (show d.length = 1 by omega)
    obtain ⟨u, rfl⟩ := List.length_eq_one_iff.1 (hall t (List.mem_singleton_self t))
    exact ⟨u, rfl⟩
  · exfalso
    obtain ⟨e0, he0, hn0⟩ : ∃ s, s ∈ d ∧ s.length ≠ 1 := Classical.byContradiction fun h => hall fun s hs => Classical.byContradiction fun k => h ⟨s, hs, k⟩
    have hle := h2 e0 he0
    have hpe := chk_len (G.2.2.1 e0 he0)
    have hone2 : ∀ s ∈ d, s.length = 2 := fun s hs => by
      have hl := h2 s hs
      have hp0 := chk_len (G.2.2.1 s hs)
      refine Classical.byContradiction fun hn => ?_
      obtain ⟨u, rfl⟩ := List.length_eq_one_iff.1 (show s.length = 1 by omega)
      have key : ∀ f ∈ d, u ∈ f → 2 ≤ f.length → False := fun f hf hu hfl => by
        have := inside_anti G hs hf (inside_mem.2 fun v hv => by rw [List.mem_singleton.1 hv]; exact hu)
        rw [← this] at hfl
        simp at hfl
      rcases conn_first (hone _ hs _ he0) with h | ⟨x, h⟩
      · have hu : u = hdV e0 := h
        exact key e0 he0 (by rw [hu]; exact hd_mem hpe.1) (by omega)
      · rcases h with h | h
        · obtain ⟨f, hf, h1, _, hfl⟩ := hedge _ _ h
          exact key f hf h1 hfl
        · obtain ⟨f, hf, _, h1, hfl⟩ := hedge _ _ h
          exact key f hf h1 hfl
    have hsub : ∀ f ∈ d, (subsV 1 f).length = 2 := fun f hf => by
      rw [subs_choose, hone2 f hf]; rfl
    have hvf : ∀ f ∈ d, ((allC d 1).filter fun t => insideV t f).length = 2 := fun f hf => by
      have hn1 : ((allC d 1).filter fun t => insideV t f).Nodup := (allC_asc d 1).nodup.filter _
      have hn2 : (subsV 1 f).Nodup := subs_nodup (G.asc f hf) 1
      have hm : ∀ t, t ∈ (allC d 1).filter (fun t => insideV t f) ↔ t ∈ subsV 1 f := fun t => by
        rw [List.mem_filter, all_iff G.asc]
        constructor
        · rintro ⟨⟨h1, h3, _⟩, h4⟩
          exact (subsV_mem _ _ _).2 ⟨(sub_inside h1 (G.asc f hf)).2 h4, h3⟩
        · intro h
          obtain ⟨h3, h4⟩ := (subsV_mem _ _ _).1 h
          have ha : Asc t := (G.asc f hf).sublist h3
          have hi := (sub_inside ha (G.asc f hf)).1 h3
          exact ⟨⟨ha, h4, hasC_iff.2 ⟨f, hf, hi⟩⟩, hi⟩
      rw [← hsub f hf]
      exact Nat.le_antisymm (List.Nodup.length_le_of_subset hn1 fun t ht => (hm t).1 ht) (List.Nodup.length_le_of_subset hn2 fun t ht => (hm t).2 ht)
    have htwo : ∀ t ∈ allC d 1, 2 ≤ (d.filter fun f => insideV t f).length := fun t ht => by
      obtain ⟨h1, h3, h4⟩ := (all_iff G.asc).1 ht
      obtain ⟨f, hf, hi⟩ := hasC_iff.1 h4
      have hpos : 0 < (d.filter fun f => insideV t f).length := List.length_pos_of_mem (List.mem_filter.2 ⟨hf, hi⟩)
      refine Classical.byContradiction fun hn => ?_
      have hx : ((t, f) : Cl) ∈ pairsC d := pairs_mem.2 ⟨hf, by have := hone2 f hf; show f.length ≠ 1; omega, (subsV_mem _ _ _).2 ⟨(sub_inside h1 (G.asc f hf)).2 hi, by have := hone2 f hf; show t.length = f.length - 1; omega⟩, by show (d.filter fun f => insideV t f).length = 1; omega⟩
      rw [hpr] at hx
      cases hx
    have hsum := dbl_count (fun t f => insideV t f) (allC d 1) d
    rw [sum_is hvf] at hsum
    have hge := sum_ge htwo
    have hE : (allC d 2).length = d.length := Nat.le_antisymm
      (List.Nodup.length_le_of_subset (allC_asc d 2).nodup fun t ht => by
        obtain ⟨f, hf, hm⟩ := allC_mem.1 ht
        obtain ⟨h3, h4⟩ := (subsV_mem _ _ _).1 hm
        rw [h3.eq_of_length (by rw [h4, hone2 f hf])]; exact hf)
      (List.Nodup.length_le_of_subset G.2.1.nodup fun f hf => allC_mem.2 ⟨f, hf, (subsV_mem _ _ _).2 ⟨List.Sublist.refl _, hone2 f hf⟩⟩)
    rw [eul_two h2] at he
    omega
theorem steps_two : ∀ (n : Nat) {c : Cx}, GoodX c → wholeN c 8 ≤ 4098 → (∀ s ∈ c, s.length ≤ 2) → ∀ s ∈ (redC n c).1, s.length ≤ 2
  | 0, c, _, _, h => h
  | n + 1, c, G, hw, h => by
    cases hp : pairsC c with
    | nil => rw [redC_nil hp]; exact h
    | cons x t =>
      have hm : x ∈ pairsC c := by rw [hp]; exact List.mem_cons_self ..
      have hx := pair_ok G hm
      have h2 := left_two G hx
      have G2 := left_good G hx hw
      rw [redC_cons hp]
      refine steps_two n G2 (by omega) fun s hs => ?_
      obtain ⟨f, hf, hi⟩ := left_sub G hx hs
      exact Nat.le_trans (inside_le (G2.asc s hs) (G.asc f hf) hi) (h f hf)
theorem conn_parts (l : Cx) : connC l = decide (partsN l = 1) := by
  apply bool_iff
  have hc : (compC l).length = l.length := List.length_map ..
  unfold connC
  rw [Bool.and_eq_true, List.all_eq_true, decide_eq_true_eq, decide_eq_true_eq]
  have htp := top_parts l
  have hb := comp_bnd l
  obtain ⟨g1, g2⟩ := topN_ge (compC l) 0
  constructor
  · rintro ⟨h1, h2⟩
    have h3 : topN (compC l) 0 ≤ 1 := topN_le _ _ _ (fun c hc => by have := of_decide_eq_true (h1 c hc); omega) (by omega)
    have h4 := g2 _ (List.getElem_mem h2)
    have h5 := (hb _ (List.getElem_mem h2)).1
    omega
  · intro h
    refine ⟨fun c hc => decide_eq_true fun hp => ?_, ?_⟩
    · have := g2 c hc
      omega
    · refine Classical.byContradiction fun hn => ?_
      have : compC l = [] := List.eq_nil_of_length_eq_zero (by omega)
      rw [this] at htp
      have h0 : topN [] 0 = 0 := rfl
      omega
theorem graph_coll {c : Cx} (G : GoodX c) (hw : wholeN c 8 ≤ 4096) (h2 : ∀ s ∈ c, s.length ≤ 2) : ∃ m, collK c = (if partsN c = 1 ∧ ((allC c 2).length : Int) = ((allC c 1).length : Int) - 1 then (1, m, 0) else (2, [], 0)) ∧ (partsN c = 1 ∧ ((allC c 2).length : Int) = ((allC c 1).length : Int) - 1 → m.length = (allC c 2).length) := by
  have R := red_ok G hw
  have hd2 : ∀ s ∈ (reducedC c).1, s.length ≤ 2 := steps_two 4096 G (by omega) h2
  have he := eul_two h2
  have hwt := whole_two h2
  have hr : redK c = ((reducedC c).1, (reducedC c).2, 0) := by
    unfold redK
    rw [if_neg (by rw [goodX_iff.2 G]; omega), if_neg (by omega)]
  refine ⟨(reducedC c).2, ?_, ?_⟩
  · by_cases h : partsN c = 1 ∧ ((allC c 2).length : Int) = ((allC c 1).length : Int) - 1
    · rw [if_pos h]
      obtain ⟨u, hu⟩ := graph_point R.good hd2 R.ends (R.parts.trans h.1) (by rw [R.eul]; omega)
      unfold collK
      rw [hr, hu, if_neg (fun h => h rfl), if_pos (by exact ⟨rfl, rfl⟩)]
    · rw [if_neg h]
      unfold collK
      rw [hr, if_neg (fun h => h rfl)]
      have hnp : ¬ (((reducedC c).1).length = 1 ∧ (((reducedC c).1).getD 0 []).length = 1) := fun ⟨k1, k2⟩ => by
        obtain ⟨s, hs⟩ := List.length_eq_one_iff.1 k1
        rw [hs] at k2
        obtain ⟨u, hu⟩ := List.length_eq_one_iff.1 (show s.length = 1 from k2)
        subst hu
        have e1 := R.parts
        have e2 := R.eul
        rw [hs] at e1 e2
        have e3 : partsN [[u]] = 1 := rfl
        have e4 : eulS [[u]] 8 = 1 := rfl
        exact h ⟨by omega, by omega⟩
      rw [if_neg hnp, if_pos ?_]
      rw [conn_parts, eul_whole G hw]
      by_cases h1 : partsN c = 1
      · refine .inr fun q => h ⟨h1, ?_⟩
        have : eulS c 8 = 1 := q
        omega
      · exact .inl (decide_eq_false h1)
  · intro h
    obtain ⟨u, hu⟩ := graph_point R.good hd2 R.ends (R.parts.trans h.1) (by rw [R.eul]; omega)
    have hh := R.whole
    rw [hu, show wholeN [[u]] 8 = 1 from rfl] at hh
    omega
end Go.Proofs.YtjbepoofigokjaaGreat
namespace Go.Proofs.YtjbepoofigokjaaGreat
theorem sub_one {l2 : List Vx} {v : Vx} (h : l2.Sublist [v]) : l2 = [] ∨ l2 = [v] := by
  cases h with
  | cons _ h => exact .inl (List.sublist_nil.1 h)
  | cons_cons _ h => exact .inr (by rw [List.sublist_nil.1 h])
theorem last_of {v : Vx} : ∀ {s : List Vx}, Asc s → v ∈ s → (∀ u ∈ s, u ≠ v → cmpV u v < 0) → ∃ t, s = t ++ [v] ∧ v ∉ t
  | [], _, h, _ => by cases h
  | a :: s, hs, hv, hm => by
    unfold Asc at hs
    rw [List.pairwise_cons] at hs
    by_cases e : a = v
    · subst e
      cases s with
      | nil => exact ⟨[], rfl, by simp⟩
      | cons b s =>
        have h1 := hs.1 b (List.mem_cons_self ..)
        have hne : b ≠ a := fun q => by subst q; rw [cmpV_irr] at h1; omega
        have h2 := hm b (by simp) hne
        have := cmpV_trans h1 h2
        rw [cmpV_irr] at this
        omega
    · have hv' : v ∈ s := by
        rcases List.mem_cons.1 hv with q | q
        · exact absurd q.symm e
        · exact q
      obtain ⟨t, rfl, hn⟩ := last_of hs.2 hv' fun u hu => hm u (List.mem_cons_of_mem _ hu)
      exact ⟨a :: t, rfl, fun q => by
        rcases List.mem_cons.1 q with q | q
        · exact e q.symm
        · exact hn q⟩
theorem cone_lt {v : Vx} {t' t : List Vx} (h : t'.Sublist t) (hl : t'.length + 1 = t.length) (ha : Asc (t ++ [v])) : cmpL t (t' ++ [v]) < 0 := by
  induction h with
  | slnil => simp at hl
  | @cons t' t a h ih =>
    rw [List.length_cons] at hl
    obtain rfl := h.eq_of_length (by omega)
    unfold Asc at ha
    rw [List.cons_append, List.pairwise_cons] at ha
    cases t' with
    | nil =>
      have h1 := ha.1 v (by simp)
      show (if cmpV a v = 0 then _ else cmpV a v) < 0
      rw [if_neg (by omega)]; exact h1
    | cons b t' =>
      have h1 := ha.1 b (by simp)
      show (if cmpV a b = 0 then _ else cmpV a b) < 0
      rw [if_neg (by omega)]; exact h1
  | @cons_cons t' t a h ih =>
    rw [List.length_cons, List.length_cons] at hl
    unfold Asc at ha
    rw [List.cons_append, List.pairwise_cons] at ha
    rw [List.cons_append, cmpL_cons]
    exact ih (by omega) ha.2
structure ConeX (l : Cx) (v : Vx) : Prop where
  good : GoodX l
  ne : l ≠ []
  top : ∀ s ∈ l, v ∈ s ∧ ∀ u ∈ s, u ≠ v → cmpV u v < 0
section
variable {l : Cx} {v : Vx} (C : ConeX l v)
include C
theorem ConeX.last {s : List Vx} (hs : s ∈ l) : ∃ t, s = t ++ [v] ∧ v ∉ t := last_of (C.good.asc s hs) (C.top s hs).1 (C.top s hs).2
theorem ConeX.pair {t : List Vx} (hs : t ++ [v] ∈ l) (_hn : v ∉ t) (h0 : t ≠ []) : (t, t ++ [v]) ∈ pairsC l := by
  have hp : 0 < t.length := List.length_pos_iff.2 h0
  refine pairs_mem.2 ⟨hs, by simp; omega, (subsV_mem _ _ _).2 ⟨List.sublist_append_left _ _, by simp⟩, ?_⟩
  unfold abvC
  have h1 : ∀ f ∈ l.filter (fun f => insideV t f), f = t ++ [v] := fun f hf => by
    obtain ⟨f1, f2⟩ := List.mem_filter.1 hf
    refine (inside_anti C.good hs f1 (inside_mem.2 fun u hu => ?_)).symm
    rcases List.mem_append.1 hu with q | q
    · exact inside_mem.1 f2 u q
    · rw [List.mem_singleton.1 q]; exact (C.top f f1).1
  have h2 : (l.filter fun f => insideV t f).length ≤ [t ++ [v]].length := List.Nodup.length_le_of_subset (C.good.2.1.nodup.filter _) fun f hf => by rw [h1 f hf]; exact List.mem_singleton_self _
  have h3 : 0 < (l.filter fun f => insideV t f).length := List.length_pos_of_mem (List.mem_filter.2 ⟨hs, inside_mem.2 fun u hu => List.mem_append_left _ hu⟩)
  rw [List.length_singleton] at h2
  show (l.filter fun f => insideV t f).length = 1
  omega
theorem ConeX.head {x : Cl} {m : List Cl} (hp : pairsC l = x :: m) : v ∉ x.1 ∧ x.2 = x.1 ++ [v] := by
  have hm : x ∈ pairsC l := by rw [hp]; exact List.mem_cons_self ..
  have hx := pair_ok C.good hm
  obtain ⟨t, ht, hn⟩ := C.last hx.mem
  have hln := hx.len
  have hsub := hx.sub
  have hlt : x.2.length = t.length + 1 := by rw [ht]; simp
  rw [ht] at hsub
  obtain ⟨l1, l2, e, s1, s2⟩ := List.sublist_append_iff.1 hsub
  by_cases hv : v ∈ x.1
  · have hl2 : l2 = [v] := by
      rcases sub_one s2 with q | q
      · subst q
        rw [List.append_nil] at e
        rw [e] at hv
        exact absurd (s1.subset hv) hn
      · exact q
    subst hl2
    have hl1 : l1.length + 1 = t.length := by
      have := congrArg List.length e
      rw [List.length_append, List.length_singleton] at this
      omega
    have hc := cone_lt s1 hl1 (by rw [← ht]; exact C.good.asc _ hx.mem)
    rw [← e] at hc
    have hmem := C.pair (t := t) (by rw [← ht]; exact hx.mem) hn (fun q => by subst q; simp at hl1)
    rw [hp] at hmem
    have hasc := pairs_asc C.good
    rw [hp] at hasc
    unfold AscK at hasc
    rw [List.pairwise_cons] at hasc
    rcases List.mem_cons.1 hmem with q | q
    · exact absurd hv (by rw [← q]; exact hn)
    · exact absurd hc (cmp_asym (hasc.1 _ q))
  · refine ⟨hv, ?_⟩
    have hl2 : l2 = [] := by
      rcases sub_one s2 with q | q
      · exact q
      · subst q; exact absurd (by rw [e]; simp) hv
    subst hl2
    rw [List.append_nil] at e
    subst e
    rw [ht, s1.eq_of_length (by omega)]
end
end Go.Proofs.YtjbepoofigokjaaGreat
namespace Go.Proofs.YtjbepoofigokjaaGreat
theorem pow_le {l : Cx} (h : ∀ s ∈ l, s.length ≤ 8) : powN l ≤ 256 * l.length := by
  induction l with
  | nil => exact Nat.zero_le _
  | cons s l ih =>
    have h1 := ih fun t ht => h t (List.mem_cons_of_mem _ ht)
    have h2 : 2 ^ s.length ≤ 2 ^ 8 := Nat.pow_le_pow_right (by decide) (h s (List.mem_cons_self ..))
    have e : powN (s :: l) = 2 ^ s.length + powN l := by unfold powN; rw [List.map_cons, List.sum_cons]
    rw [e, List.length_cons]
    omega
end Go.Proofs.YtjbepoofigokjaaGreat
namespace Go.Proofs.YtjbepoofigokjaaGreat
def lowE (a b : Int) : Int := if b < a then b else a
def topE (a b : Int) : Int := if a < b then b else a
def edgE (p : Int × Int) : List Vx := if p.1 % 7 = p.2 % 7 then [(0, p.1 % 7)] else [(0, lowE (p.1 % 7) (p.2 % 7)), (0, topE (p.1 % 7) (p.2 % 7))]
theorem edgE_lt {a b : Int} (h : a ≠ b) : lowE a b < topE a b := by
  unfold lowE topE
  by_cases h1 : a < b
  · rw [if_neg (by omega), if_pos h1]; exact h1
  · rw [if_pos (by omega), if_neg h1]; omega
theorem edgE_mem (p : Int × Int) (u : Vx) : u ∈ edgE p ↔ u ∈ ([(0, lowE (p.1 % 7) (p.2 % 7)), (0, topE (p.1 % 7) (p.2 % 7))] : List Vx) := by
  unfold edgE
  by_cases h : p.1 % 7 = p.2 % 7
  · rw [if_pos h, h]
    unfold lowE topE
    simp
  · rw [if_neg h]
theorem cmp_col {a b : Int} (h : a < b) : cmpV (0, a) (0, b) < 0 := by
  unfold cmpV
  simp only
  rw [if_neg (by omega), if_neg (by omega), if_pos h]; decide
theorem edgE_asc (p : Int × Int) : Asc (edgE p) := by
  unfold edgE
  by_cases h : p.1 % 7 = p.2 % 7
  · rw [if_pos h]; simp [Asc]
  · rw [if_neg h]
    have := cmp_col (edgE_lt h)
    simp [Asc, this]
theorem edgE_sort (p : Int × Int) : SortV [(0, lowE (p.1 % 7) (p.2 % 7)), (0, topE (p.1 % 7) (p.2 % 7))] := by
  have h : ¬ cmpV (0, topE (p.1 % 7) (p.2 % 7)) (0, lowE (p.1 % 7) (p.2 % 7)) < 0 := by
    have hle : lowE (p.1 % 7) (p.2 % 7) ≤ topE (p.1 % 7) (p.2 % 7) := by
      unfold lowE topE
      split <;> split <;> omega
    unfold cmpV
    simp only
    rw [if_neg (by omega), if_neg (by omega), if_neg (by omega)]
    split <;> decide
  simp only [SortV, List.pairwise_cons, List.mem_singleton, forall_eq, List.not_mem_nil, false_implies, implies_true, List.Pairwise.nil, and_true]
  exact h
theorem edgE_len (p : Int × Int) : (edgE p).length ≤ 2 := by
  unfold edgE
  split <;> simp
theorem edgE_chk (p : Int × Int) : chkV (edgE p) = 0 := by
  refine chkV_zero.2 ⟨?_, Nat.le_trans (edgE_len p) (by decide), fun v hv => ?_, edgE_asc p⟩
  · unfold edgE
    split <;> simp
  · have h := (edgE_mem p v).1 hv
    have hr : ∀ x : Int, 0 ≤ x → x < 7 → rngV (0, x) = true := fun x h1 h2 => by
      unfold rngV
      simp only [Bool.and_eq_true, decide_eq_true_eq]
      omega
    simp only [List.mem_cons, List.not_mem_nil, or_false] at h
    rcases h with rfl | rfl
    · refine hr _ ?_ ?_ <;> (unfold lowE; split <;> omega)
    · refine hr _ ?_ ?_ <;> (unfold topE; split <;> omega)
theorem errC_none : ∀ {l : Cx}, (∀ s ∈ l, chkV s = 0) → errC l = 0
  | [], _ => rfl
  | s :: l, h => by
    unfold errC
    rw [if_neg (fun q => q (h s (List.mem_cons_self ..)))]
    exact errC_none fun t ht => h t (List.mem_cons_of_mem _ ht)
theorem edges_ok {es : List (Int × Int)} (h : es.length ≤ 16) : ofP (es.map edgE) = (maxC (es.map edgE), 0) ∧ GoodX (maxC (es.map edgE)) ∧ wholeN (maxC (es.map edgE)) 8 ≤ 4096 ∧ ∀ s ∈ maxC (es.map edgE), s.length ≤ 2 := by
  have hc : ∀ s ∈ es.map edgE, chkV s = 0 := fun s hs => by
    obtain ⟨p, _, rfl⟩ := List.mem_map.1 hs
    exact edgE_chk p
  have hl2 : ∀ s ∈ maxC (es.map edgE), s.length ≤ 2 := fun s hs => by
    obtain ⟨p, _, rfl⟩ := List.mem_map.1 (maxC_mem.1 hs).1
    exact edgE_len p
  have hlen : (es.map edgE).length = es.length := List.length_map ..
  have hml : (maxC (es.map edgE)).length ≤ 16 := by
    have := List.Nodup.length_le_of_subset (maxC_asc (es.map edgE)).nodup fun x hx => (maxC_mem.1 hx).1
    omega
  have G : GoodX (maxC (es.map edgE)) := good_max (fun s hs _ => hc s hs) (by omega)
  refine ⟨?_, G, Nat.le_trans (whole_pow G.2.2.1) (Nat.le_trans (pow_le fun s hs => Nat.le_trans (hl2 s hs) (by decide)) (by omega)), hl2⟩
  unfold ofP
  rw [if_neg (by omega), if_neg (fun q => q (errC_none hc))]
end Go.Proofs.YtjbepoofigokjaaGreat
namespace Go.Proofs.YtjbepoofigokjaaGreat
open Go.RowKit
set_option maxRecDepth 100000
def RE : Rel (Int × Int) := fun _ _ v x => v = .agg #[.int .u8 x.1, .int .u8 x.2] ∧ (0 ≤ x.1 ∧ x.1 ≤ 255) ∧ 0 ≤ x.2 ∧ x.2 ≤ 255
instance : Good RE := ⟨fun h _ => h, fun h _ => h, fun h => h⟩
theorem shape_E {x : Int × Int} : (dS RE x).Shape 2 true := fun _ _ _ h => by
  have h1 := (h : _ ∧ _).1
  subst h1
  exact ⟨[.int .u8 x.1, .int .u8 x.2], rfl, by omega, by simp [Value.oneCell'], rfl, rfl⟩
theorem shape_ZE : (dX (.agg #[.int .u8 0, .int .u8 0])).Shape 2 true := fun _ _ _ h => by cases (h : _ = _); exact ⟨[.int .u8 0, .int .u8 0], rfl, by omega, by simp [Value.oneCell'], rfl, rfl⟩
theorem elE2 : ElT Tryz.prog 60 61 2 (.agg #[.int .u8 0, .int .u8 0]) 2 true := ⟨Tryz.underlying60, by kernel_rfl, Tryz.isAgg61, rfl⟩
theorem tyE2 : TyI Tryz.prog 61 2 true := ⟨by kernel_rfl, Tryz.isAgg61⟩
theorem tzE2 : TyZ Tryz.prog 61 (.agg #[.int .u8 0, .int .u8 0]) := ⟨by kernel_rfl⟩
theorem tyB8 : TyI Tryz.prog 5 1 false := ⟨by kernel_rfl, Tryz.isAgg5⟩
section
variable {P : Program} {ops : Array Oper} {hp : List HObj} {fr : List Dat} {d : Dat} {Q : Post} {rest : List Oper}
variable {dst : Option Tmp} {ty : TypeId} {ps : String} {af : Array Edge} {g : Option (Nat × Bool)} {T t e : TypeId} {n bytes : Nat} {z : Value} {ag : Bool}
theorem ixE2 : ∀ b (off i : Nat) w, i < 2 → (Instr.indexAt 61 (.pointer (some ⟨b, off, none⟩)) (.int .i64 (i : Int))).run Tryz.prog w = .ok (.pointer (some ⟨b, off + i, none⟩)) w := by
  intro b off i w h
  have h1 : (0 : Int) ≤ (i : Int) ∧ (i : Int) < 2 := by omega
  go_simp
theorem SY.ixE {x i : Operand} {p : Int × Int} {k : Nat} {j : Int} (hx : OpD fr x (dP 2 true (dS RE p))) (hi : OpD fr i (dI j)) (hj : j = (k : Int)) (hk : k < 2) :
    SY Tryz.prog ops hp { dst := dst, op := .indexAddr 61 x i, type := ty, pos := ps, after := af, guard := g } fr (dP 1 false (dX (.int .u8 (if k = 0 then p.1 else p.2)))) := SY.val fun {I w a} ho => by
  obtain ⟨b, off, u, h1, ⟨hb, cs, k1, k0, k2, k3, k4⟩, hu⟩ := hx.get (by simp [Op.operands]) ho
  have h2 : a.eval i = _ := hi.get (by simp [Op.operands]) ho
  simp only [if_true] at k4
  have hu1 := (hu : _ ∧ _).1
  rw [k4] at hu1
  have hcs : cs = [.int .u8 p.1, .int .u8 p.2] := by injection hu1 with hu1; exact List.toArray_inj hu1
  subst hcs
  refine ⟨_, ?_, b, off + k, .int .u8 (if k = 0 then p.1 else p.2), rfl, ⟨hb, [.int .u8 (if k = 0 then p.1 else p.2)], rfl, Nat.one_pos, by simp [Value.oneCell'], fun j c hc => ?_, rfl⟩, rfl⟩
  · unfold execOp
    simp only [h1, h2, hj, Sem.run_bind, ixE2 b off k w hk, Result.andThen_ok, Sem.run_pure]
  · have hj : j = 0 := by have := (List.getElem?_eq_some_iff.1 hc).1; simpa using this
    subst hj
    cases hc
    match k, hk with
    | 0, _ => exact k3 0 _ rfl
    | 1, _ => exact k3 1 _ rfl
theorem SY.ixE0 {x i : Operand} {p : Int × Int} (hx : OpD fr x (dP 2 true (dS RE p))) (hi : OpD fr i (dI 0)) :
    SY Tryz.prog ops hp { dst := dst, op := .indexAddr 61 x i, type := ty, pos := ps, after := af, guard := g } fr (dP 1 false (dX (.int .u8 p.1))) := SY.ixE (k := 0) hx hi rfl (by decide)
theorem SY.ixE1 {x i : Operand} {p : Int × Int} (hx : OpD fr x (dP 2 true (dS RE p))) (hi : OpD fr i (dI 1)) :
    SY Tryz.prog ops hp { dst := dst, op := .indexAddr 61 x i, type := ty, pos := ps, after := af, guard := g } fr (dP 1 false (dX (.int .u8 p.2))) := SY.ixE (k := 1) hx hi rfl (by decide)
theorem remB7 : ∀ c : Int, 0 ≤ c ∧ c ≤ 255 → ∀ w, (Go.binOp .rem 5 (.int .u8 c) (.int .u8 7)).run P w = .ok (.int .u8 (c % 7)) w := by
  intro c hc w
  have h : c.tmod 7 = c % 7 := Int.tmod_eq_emod_of_nonneg hc.1
  simp [Go.binOp, Op.intDiv, h]
theorem SY.rem7 {x : Operand} {T2 : TypeId} {c : Int} (hx : OpD fr x (dX (.int .u8 c))) (hc : 0 ≤ c ∧ c ≤ 255) :
    SY P ops hp { dst := dst, op := .binOp .rem 5 x (.const (.int .u8 7)) T2, type := ty, pos := ps, after := af, guard := g } fr (dX (.int .u8 (c % 7))) := SY.val fun {I w a} ho => by
  have h1 : a.eval x = _ := hx.get (by simp [Op.operands]) ho
  have h2 : a.eval (.const (.int .u8 7)) = .int .u8 7 := rfl
  have hg : (eqGuard .rem 5 x (.const (.int .u8 7)) (.int .u8 c) (.int .u8 7)).run P w = .ok () w := by unfold eqGuard; split <;> simp
  refine ⟨_, ?_, rfl⟩
  unfold execOp
  simp only [h1, h2, Sem.run_bind, hg, remB7 c hc w, Result.andThen_ok, Sem.run_pure]
theorem WL.litK {α : Type} {R : Rel α} {_gR : Good R} {len : Nat} {parts : Array (Nat × Operand)} {els : List α} (hn : 0 < n) (E : ElT P t e n z bytes ag) (hx : ElsD fr R (parts.toList.map Prod.snd) els) (hparts : parts.toList = ((parts.toList.map Prod.snd).zipIdx).map (fun p => (p.2, p.1))) (hl : len = els.length) (hs : ∀ a, (dS R a).Shape n true) (hsm : els.length * n ≤ 16777216)
    (h : ∀ v, WL P ops Q rest (setD fr dst (dX v)) (hRowK v e n R els :: hp)) : WL P ops Q ({ dst := dst, op := .buildSlice t len parts, type := ty, pos := ps, after := af, guard := none } :: rest) fr hp := by
  refine WL.of fun P0 B w0 w a hh hf => ?_
  obtain ⟨css, hr, hcl, hcn, hel⟩ := build_core (ops := ops) (dst := dst) (ty := ty) (ps := ps) (af := af) (g := none) E hx hl hparts hs hsm hh (hf.on _)
  refine wpList_value rfl hr ?_
  have hx := Ext.of_alloc w (.cells css.flatten.toArray e)
  have hob : ∀ k, (hRowK (.slice (some ⟨w.heap.size, 0, none⟩) els.length els.length) e n R els).blk = some k → w.heap.size ≤ k ∧ k < (w.alloc (.cells css.flatten.toArray e)).heap.size := fun k hk => by
    cases hk
    exact ⟨Nat.le_refl _, by simp⟩
  have hfl : css.flatten.length = els.length * n := by rw [flatten_len (n := n) fun u hu => (hcn u hu).1, hcl]
  have hmx : els.length ≤ maxLen := by
    have : els.length * 1 ≤ els.length * n := Nat.mul_le_mul_left _ hn
    simp only [maxLen]; omega
  refine (h _).on (hh.push (o := hRowK (.slice (some ⟨w.heap.size, 0, none⟩) els.length els.length) e n R els) hx hob ⟨css, hcl, hcn, hn, ?_, fun k h h' => ?_⟩) (Fr.put (hf.mono fun d _ hd => Hp.pushed hx (fun k hk => (hob k hk).1) hd) rfl)
  · refine ⟨hfl, .inr ⟨w.heap.size, els.length, css.flatten.toArray, rfl, Nat.zero_le _, alloc_get w _, Nat.le_refl _, hmx, by simpa using hfl, ?_⟩⟩
    show css.flatten.take _ = css.flatten
    rw [← hfl, List.take_length]
  · obtain ⟨u, hu, hR⟩ := hel k css[k] els[k] (List.getElem?_eq_getElem h) (List.getElem?_eq_getElem h')
    simp only [if_true] at hu
    subst hu
    exact Good.ext (R := R) (Good.weak (Good.bound hR) fun j hj => ⟨hj, fun e => by cases e; exact absurd hj.2 (Nat.lt_irrefl _)⟩) hx
theorem WL.freezeK {s : Nat} {α : Type} {R : Rel α} {_gR : Good R} {v : Value} {xs : List α} (ht : fr[s]? = some (dX v)) (h : WL P ops Q rest (fr.set s (dS (ArrK n R) xs)) hp) : WL P ops Q rest fr (hRowK v e n R xs :: hp) := WL.of fun P0 B w0 w a hh hf => by
  obtain ⟨us, hl, hu, hn, ho, he⟩ := hh.ok (hRowK v e n R xs) (by simp)
  refine h.on hh.drop ⟨hf.defers, by rw [hf.size, List.length_set], fun t' d' hd' => ?_⟩
  by_cases htt : s = t'
  · subst htt
    rw [List.getElem?_set] at hd'
    simp only [if_true] at hd'
    split at hd'
    · cases hd'
      have hv : a.tmps.getD s undef = v := hf.rd s _ ht
      rw [hv]
      obtain ⟨a', cap, hv, h1, h2, h3⟩ := ownsRow_shape ho
      refine ⟨a', cap, hv, h1, h2, hn, fun k hk => ?_⟩
      have hk' : k < us.length := by omega
      have hmem := hu us[k] (List.getElem_mem hk')
      have hlen : ∀ u ∈ us, u.length = n := fun u h => (hu u h).1
      have hc0 : 0 < us[k].length := by rw [hmem.1]; exact hn
      obtain ⟨gb, ha, hob, hB, _⟩ := h3 (k * n + 0) us[k][0] (flatten_get hlen hk' (List.getElem?_eq_getElem hc0))
      have hown := hh.own (hRowK v e n R xs) (by simp) gb hob
      refine ⟨us[k], gb, 0, Good.weak (he k hk' hk) (fun b hb => Imm.sub b hb.1), hmem.1, hmem.2, ha, ⟨.inr hown.1, fun o' ho' hk => (List.pairwise_cons.1 hh.apart).1 o' ho' gb hob hk⟩, fun j c hc => ?_⟩
      obtain ⟨g', ha', _, _, hc'⟩ := h3 (k * n + j) c (flatten_get hlen hk' hc)
      rw [ha] at ha'
      cases ha'
      rw [Nat.zero_add]; exact hc'
    · cases hd'
  · rw [List.getElem?_set_ne htt] at hd'
    exact d'.weak (hf.rd t' d' hd') Imm.sub
theorem WC.freeze1 {c : Code} {s : Nat} {α : Type} {R : Rel α} {_gR : Good R} {v : Value} {xs : List α} (ht : fr[s]? = some (dX v)) (h : WC P Q c (fr.set s (dS (Arr R) xs)) hp) : WC P Q c fr (hRow v e R xs :: hp) := WC.of fun P0 B w0 w a hh hf => by
  obtain ⟨us, hl, ho, he⟩ := hh.ok (hRow v e R xs) (by simp)
  refine h.on hh.drop ⟨hf.defers, by rw [hf.size, List.length_set], fun t' d' hd' => ?_⟩
  by_cases htt : s = t'
  · subst htt
    rw [List.getElem?_set] at hd'
    simp only [if_true] at hd'
    split at hd'
    · cases hd'
      have hv : a.tmps.getD s undef = v := hf.rd s _ ht
      rw [hv]
      obtain ⟨a', cap, hv, h1, h2, h3⟩ := ownsRow_shape ho
      refine ⟨a', cap, hv, h1, h2, fun k hk => ?_⟩
      have hk' : k < us.length := by omega
      obtain ⟨gb, ha, hob, _, hc⟩ := h3 k us[k] (List.getElem?_eq_getElem hk')
      obtain ⟨r1, r2⟩ := he k hk' hk
      have hown := hh.own (hRow v e R xs) (by simp) gb hob
      exact ⟨us[k], gb, 0, Good.weak r2 (fun b hb => Imm.sub b hb.1), r1, ha, ⟨.inr hown.1, fun o' ho' hk => (List.pairwise_cons.1 hh.apart).1 o' ho' gb hob hk⟩, by rw [Nat.zero_add]; exact hc⟩
    · cases hd'
  · rw [List.getElem?_set_ne htt] at hd'
    exact d'.weak (hf.rd t' d' hd') Imm.sub
end
end Go.Proofs.YtjbepoofigokjaaGreat
