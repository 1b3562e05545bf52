/-
  Part 32 of the texts that the claims of this seat lean on: walks of the program's functions by contracts over symbolic frames, and plain laws of what they compute. No condition.
-/
import Derived.Test.YtkedmlandjlogaaGreatVd11
import Derived.Test.YtkedmlandjlogaaGreatVd20
import Derived.Test.YtkedmlandjlogaaGreatVd31
set_option linter.unusedVariables false
set_option linter.unusedSimpArgs false
set_option linter.unusedSectionVars false
namespace Go.Proofs.YtkedmlandjlogaaGreat
theorem out_mem {a b : List Vx} {x : Vx} : x ∈ sharedV a b false ↔ x ∈ a ∧ x ∉ b := by
  unfold sharedV; rw [List.mem_filter]; simp
theorem link_chk {c : Cx} (hc : ∀ f ∈ c, chkV f = 0) (s : List Vx) : ∀ x ∈ (aroundC c s).map (fun f => sharedV f s false), x.length ≠ 0 → chkV x = 0 := fun x hx h0 => by
  obtain ⟨f, hf, rfl⟩ := List.mem_map.1 hx
  obtain ⟨h1, h2, h3, h4⟩ := chkV_zero.1 (hc f (List.mem_filter.1 hf).1)
  have hl := List.length_filter_le (fun x => decide (x ∈ s) == false) f
  refine chkV_zero.2 ⟨h0, Nat.le_trans hl h2, fun v hv => h3 v (out_mem.1 hv).1, List.Pairwise.filter _ h4⟩
def wholeC (l : Cx) : Cx := [] :: upC l 8
theorem upC_nodup {l : Cx} (hl : ∀ s ∈ l, Asc s) : ∀ k, (upC l k).Nodup
  | 0 => by simp [upC]
  | k + 1 => by
    show (upC l k ++ allC l (k + 1)).Nodup
    rw [List.nodup_append]
    refine ⟨upC_nodup hl k, (allC_asc l _).nodup, fun x hx y hy hxy => ?_⟩
    subst hxy
    obtain ⟨j, h1, h2, h3⟩ := upC_mem.1 hx
    have e1 := ((all_iff hl).1 h3).2.1
    have e2 := ((all_iff hl).1 hy).2.1
    omega
theorem whole_mem {l : Cx} (hl : ∀ s ∈ l, chkV s = 0) (hne : l ≠ []) {x : List Vx} : x ∈ wholeC l ↔ Asc x ∧ hasC' l x = true := by
  have ha : ∀ s ∈ l, Asc s := fun s hs => (chkV_zero.1 (hl s hs)).2.2.2
  unfold wholeC
  rw [List.mem_cons, upC_mem]
  constructor
  · rintro (rfl | ⟨j, _, _, h⟩)
    · refine ⟨by simp [Asc], hasC_iff.2 ?_⟩
      obtain ⟨f, hf⟩ := List.exists_mem_of_ne_nil l hne
      exact ⟨f, hf, by simp [insideV]⟩
    · obtain ⟨h1, _, h3⟩ := (all_iff ha).1 h
      exact ⟨h1, h3⟩
  · rintro ⟨h1, h2⟩
    by_cases h0 : x.length = 0
    · exact .inl (List.eq_nil_of_length_eq_zero h0)
    · obtain ⟨f, hf, h3⟩ := hasC_iff.1 h2
      have h4 := inside_le h1 (ha f hf) h3
      have h5 := (chk_len (hl f hf)).2
      exact .inr ⟨x.length, by omega, by omega, (all_iff ha).2 ⟨h1, rfl, h2⟩⟩
theorem whole_nodup {l : Cx} (hl : ∀ s ∈ l, Asc s) : (wholeC l).Nodup := by
  unfold wholeC
  rw [List.nodup_cons]
  refine ⟨fun h => ?_, upC_nodup hl 8⟩
  obtain ⟨j, h1, h2, h3⟩ := upC_mem.1 h
  have := ((all_iff hl).1 h3).2.1
  simp at this; omega
def parN (n : Nat) : Int := 1 - 2 * ((n : Int) % 2)
theorem parN_add (m n : Nat) : parN (m + n) = parN m * parN n := by
  unfold parN
  have h1 : (m : Int) % 2 = 0 ∨ (m : Int) % 2 = 1 := by omega
  have h2 : (n : Int) % 2 = 0 ∨ (n : Int) % 2 = 1 := by omega
  rcases h1 with h1 | h1 <;> rcases h2 with h2 | h2 <;> rw [h1, h2] <;> simp <;> omega
def wgt (L : Cx) : Int := (L.map fun x => parN x.length).sum
theorem wgt_cons (x : List Vx) (L : Cx) : wgt (x :: L) = parN x.length + wgt L := by unfold wgt; simp
theorem wgt_app (a b : Cx) : wgt (a ++ b) = wgt a + wgt b := by unfold wgt; rw [List.map_append, List.sum_append]
theorem wgt_perm {a b : Cx} (h : a.Perm b) : wgt a = wgt b := by
  unfold wgt
  induction h with
  | nil => rfl
  | cons x _ ih => simp only [List.map_cons, List.sum_cons, ih]
  | swap x y l => simp only [List.map_cons, List.sum_cons]; omega
  | trans _ _ h1 h2 => exact h1.trans h2
theorem wgt_sum : ∀ L : Cx, wgt L = - sumC L
  | [] => rfl
  | x :: L => by
    have h := wgt_sum L
    have h3 : sumC (x :: L) = sgnC x + sumC L := by unfold sumC; simp
    rw [wgt_cons, h, h3]
    unfold parN sgnC
    rw [Int.tmod_eq_emod_of_nonneg (by omega)]
    omega
theorem wgt_whole (l : Cx) : wgt (wholeC l) = 1 - eulS l 8 := by
  unfold wholeC
  rw [wgt_cons, wgt_sum, sum_up]
  show (1 : Int) - 2 * (((0 : Nat) : Int) % 2) + _ = _
  omega
theorem len_disj {s t : List Vx} (hs : Asc s) (ht : Asc t) (h : ∀ v ∈ s, v ∉ t) : (allV s t).length = s.length + t.length := by
  have hn1 : s.Nodup := List.Pairwise.imp (fun {a b} hab hc => by subst hc; rw [cmpV_eq.2 rfl] at hab; omega) hs
  have hn2 : t.Nodup := List.Pairwise.imp (fun {a b} hab hc => by subst hc; rw [cmpV_eq.2 rfl] at hab; omega) ht
  have hn : (s ++ t).Nodup := by
    rw [List.nodup_append]
    refine ⟨hn1, hn2, fun x hx y hy hxy => ?_⟩
    subst hxy
    exact h x hx hy
  have ha := asc_allV (l := t) hs
  have hn3 : (allV s t).Nodup := List.Pairwise.imp (fun {a b} hab hc => by subst hc; rw [cmpV_eq.2 rfl] at hab; omega) ha
  rw [← List.length_append]
  apply Nat.le_antisymm
  · exact List.Nodup.length_le_of_subset hn3 fun x hx => by rw [List.mem_append]; exact mem_allV.1 hx
  · exact List.Nodup.length_le_of_subset hn fun x hx => mem_allV.2 (List.mem_append.1 hx)
theorem wgt_row (s : List Vx) (hs : Asc s) : ∀ D : Cx, (∀ t ∈ D, Asc t ∧ ∀ v ∈ s, v ∉ t) → wgt (D.map fun t => allV s t) = parN s.length * wgt D
  | [], _ => by simp [wgt]
  | t :: D, h => by
    have ih := wgt_row s hs D fun x hx => h x (List.mem_cons_of_mem _ hx)
    obtain ⟨h1, h2⟩ := h t (by simp)
    rw [List.map_cons, wgt_cons, wgt_cons, ih, len_disj hs h1 h2, parN_add, Int.mul_add]
theorem wgt_prod : ∀ (A B : Cx), (∀ s ∈ A, Asc s) → (∀ s ∈ A, ∀ t ∈ B, Asc t ∧ ∀ v ∈ s, v ∉ t) → wgt (prodC A B) = wgt A * wgt B
  | [], B, _, _ => by simp [prodC, wgt]
  | s :: A, B, h1, h2 => by
    have ih := wgt_prod A B (fun x hx => h1 x (List.mem_cons_of_mem _ hx)) fun x hx => h2 x (List.mem_cons_of_mem _ hx)
    have e : prodC (s :: A) B = (B.map fun t => allV s t) ++ prodC A B := rfl
    rw [e, wgt_app, ih, wgt_row s (h1 s (by simp)) B (h2 s (by simp)), wgt_cons, Int.add_mul]
theorem filt_left {s t : List Vx} (hs : Asc s) (p : Vx → Bool) (h1 : ∀ v ∈ s, p v = true) (h2 : ∀ v ∈ t, p v = false) : (allV s t).filter p = s := by
  refine asc_ext (List.Pairwise.filter _ (asc_allV hs)) hs fun x => ?_
  rw [List.mem_filter, mem_allV]
  constructor
  · rintro ⟨h | h, k⟩
    · exact h
    · rw [h2 x h] at k; cases k
  · exact fun h => ⟨.inl h, h1 x h⟩
theorem filt_right {s t : List Vx} (hs : Asc s) (ht : Asc t) (p : Vx → Bool) (h1 : ∀ v ∈ s, p v = false) (h2 : ∀ v ∈ t, p v = true) : (allV s t).filter p = t := by
  refine asc_ext (List.Pairwise.filter _ (asc_allV hs)) ht fun x => ?_
  rw [List.mem_filter, mem_allV]
  constructor
  · rintro ⟨h | h, k⟩
    · rw [h1 x h] at k; cases k
    · exact h
  · exact fun h => ⟨.inr h, h2 x h⟩
theorem prod_nodup {p : Vx → Bool} : ∀ {A B : Cx}, A.Nodup → B.Nodup → (∀ s ∈ A, Asc s ∧ ∀ v ∈ s, p v = true) → (∀ t ∈ B, Asc t ∧ ∀ v ∈ t, p v = false) → (prodC A B).Nodup
  | [], B, _, _, _, _ => by simp [prodC]
  | s :: A, B, hA, hB, h1, h2 => by
    rw [List.nodup_cons] at hA
    have ih := prod_nodup hA.2 hB (fun x hx => h1 x (List.mem_cons_of_mem _ hx)) h2
    have e : prodC (s :: A) B = (B.map fun t => allV s t) ++ prodC A B := rfl
    obtain ⟨s1, s2⟩ := h1 s (by simp)
    rw [e, List.nodup_append]
    refine ⟨?_, ih, fun x hx y hy hxy => ?_⟩
    · refine List.Pairwise.map _ (R := fun a b => a ∈ B ∧ b ∈ B ∧ a ≠ b) (fun t t' ⟨ht, ht', hne⟩ hc => hne ?_) ?_
      · have e1 := filt_right s1 (h2 t ht).1 (fun v => !p v) (fun v hv => by rw [s2 v hv]; rfl) (fun v hv => by rw [(h2 t ht).2 v hv]; rfl)
        have e2 := filt_right s1 (h2 t' ht').1 (fun v => !p v) (fun v hv => by rw [s2 v hv]; rfl) (fun v hv => by rw [(h2 t' ht').2 v hv]; rfl)
        rw [← e1, ← e2, hc]
      · have : ∀ L : Cx, (∀ t ∈ L, t ∈ B) → L.Nodup → L.Pairwise fun a b => a ∈ B ∧ b ∈ B ∧ a ≠ b := by
          intro L
          induction L with
          | nil => intro _ _; exact .nil
          | cons t L ih =>
            intro hL hn
            rw [List.nodup_cons] at hn
            rw [List.pairwise_cons]
            exact ⟨fun t' ht' => ⟨hL t (by simp), hL t' (by simp [ht']), fun hc => hn.1 (hc ▸ ht')⟩, ih (fun x hx => hL x (by simp [hx])) hn.2⟩
        exact this B (fun _ h => h) hB
    · subst hxy
      obtain ⟨t, ht, rfl⟩ := List.mem_map.1 hx
      obtain ⟨s', hs', t', ht', hc⟩ := prodC_mem.1 hy
      obtain ⟨k1, k2⟩ := h1 s' (List.mem_cons_of_mem _ hs')
      have e1 := filt_left (t := t) s1 p s2 (h2 t ht).2
      have e2 := filt_left (t := t') k1 p k2 (h2 t' ht').2
      rw [hc, e2] at e1
      exact hA.1 (e1 ▸ hs')
theorem whole_sub {l : Cx} (hl : ∀ s ∈ l, chkV s = 0) (hne : l ≠ []) {x : List Vx} (hx : x ∈ wholeC l) : Asc x ∧ ∀ v ∈ x, v ∈ ptsC l := by
  obtain ⟨h1, h2⟩ := (whole_mem hl hne).1 hx
  obtain ⟨f, hf, h3⟩ := hasC_iff.1 h2
  exact ⟨h1, fun v hv => ptsC_mem.2 ⟨f, hf, inside_mem.1 h3 v hv⟩⟩
theorem apart_pts {a b : Cx} (h : Apart a b) {v : Vx} (h1 : v ∈ ptsC a) : v ∉ ptsC b := fun h2 => by
  obtain ⟨s, hs, v1⟩ := ptsC_mem.1 h1
  obtain ⟨t, ht, v2⟩ := ptsC_mem.1 h2
  exact h s hs t ht v v1 v2
theorem whole_prod {a b : Cx} (ha : GoodX a) (hb : GoodX b) (h : Apart a b) (na : a ≠ []) (nb : b ≠ []) (hj : ∀ s ∈ maxC (prodC a b), chkV s = 0) : (wholeC (maxC (prodC a b))).Perm (prodC (wholeC a) (wholeC b)) := by
  have ht := prod_top ha hb h
  have hm : ∀ x, x ∈ maxC (prodC a b) ↔ x ∈ prodC a b := fun x => by
    rw [maxC_mem]
    exact ⟨fun h => h.1, fun h => by rw [← ht] at h; exact List.mem_filter.1 h⟩
  have hjn : maxC (prodC a b) ≠ [] := by
    obtain ⟨s, hs⟩ := List.exists_mem_of_ne_nil a na
    obtain ⟨t, ht⟩ := List.exists_mem_of_ne_nil b nb
    exact List.ne_nil_of_mem ((hm _).2 (prodC_mem.2 ⟨s, hs, t, ht, rfl⟩))
  have sa := fun x (hx : x ∈ wholeC a) => whole_sub ha.2.2.1 na hx
  have sb := fun x (hx : x ∈ wholeC b) => whole_sub hb.2.2.1 nb hx
  refine (List.perm_ext_iff_of_nodup (whole_nodup fun s hs => (chkV_zero.1 (hj s hs)).2.2.2) (prod_nodup (p := fun v => decide (v ∈ ptsC a)) (whole_nodup ha.asc) (whole_nodup hb.asc) (fun s hs => ⟨(sa s hs).1, fun v hv => decide_eq_true ((sa s hs).2 v hv)⟩) fun t ht => ⟨(sb t ht).1, fun v hv => decide_eq_false fun hc => apart_pts h hc ((sb t ht).2 v hv)⟩)).2 fun x => ?_
  rw [whole_mem hj hjn, prodC_mem]
  constructor
  · rintro ⟨h1, h2⟩
    obtain ⟨y, hy, h3⟩ := hasC_iff.1 h2
    obtain ⟨f, hf, g, hg, rfl⟩ := prodC_mem.1 ((hm y).1 hy)
    rw [inside_mem] at h3
    refine ⟨x.filter fun v => decide (v ∈ f), (whole_mem ha.2.2.1 na).2 ⟨List.Pairwise.filter _ h1, hasC_iff.2 ⟨f, hf, inside_mem.2 fun v hv => of_decide_eq_true (List.mem_filter.1 hv).2⟩⟩,
      x.filter fun v => decide (v ∈ g), (whole_mem hb.2.2.1 nb).2 ⟨List.Pairwise.filter _ h1, hasC_iff.2 ⟨g, hg, inside_mem.2 fun v hv => of_decide_eq_true (List.mem_filter.1 hv).2⟩⟩, ?_⟩
    refine asc_ext h1 (asc_allV (List.Pairwise.filter _ h1)) fun v => ?_
    rw [mem_allV, List.mem_filter, List.mem_filter, decide_eq_true_iff, decide_eq_true_iff]
    constructor
    · intro hv
      rcases mem_allV.1 (h3 v hv) with k | k
      · exact .inl ⟨hv, k⟩
      · exact .inr ⟨hv, k⟩
    · rintro (k | k) <;> exact k.1
  · rintro ⟨s, hs, t, ht, rfl⟩
    obtain ⟨s1, s2⟩ := (whole_mem ha.2.2.1 na).1 hs
    obtain ⟨t1, t2⟩ := (whole_mem hb.2.2.1 nb).1 ht
    obtain ⟨f, hf, h3⟩ := hasC_iff.1 s2
    obtain ⟨g, hg, h4⟩ := hasC_iff.1 t2
    rw [inside_mem] at h3 h4
    refine ⟨asc_allV s1, hasC_iff.2 ⟨_, (hm _).2 (prodC_mem.2 ⟨f, hf, g, hg, rfl⟩), inside_mem.2 fun v hv => ?_⟩⟩
    rcases mem_allV.1 hv with k | k
    · exact mem_allV.2 (.inl (h3 v k))
    · exact mem_allV.2 (.inr (h4 v k))
theorem eul_prod {a b : Cx} (ha : GoodX a) (hb : GoodX b) (h : Apart a b) (na : a ≠ []) (nb : b ≠ []) (hj : ∀ s ∈ maxC (prodC a b), chkV s = 0) : 1 - eulS (maxC (prodC a b)) 8 = (1 - eulS a 8) * (1 - eulS b 8) := by
  rw [← wgt_whole, ← wgt_whole, ← wgt_whole, wgt_perm (whole_prod ha hb h na nb hj)]
  refine wgt_prod _ _ (fun s hs => (whole_sub ha.2.2.1 na hs).1) fun s hs t ht => ⟨(whole_sub hb.2.2.1 nb ht).1, fun v hv hc => ?_⟩
  exact apart_pts h ((whole_sub ha.2.2.1 na hs).2 v hv) ((whole_sub hb.2.2.1 nb ht).2 v hc)
end Go.Proofs.YtkedmlandjlogaaGreat
namespace Go.Proofs.YtkedmlandjlogaaGreat
def lnkC (a : Cx) (v : Vx) : Cx := maxC ((aroundC a [v]).map fun f => sharedV f [v] false)
theorem inside_one {v : Vx} {f : List Vx} : insideV [v] f = true ↔ v ∈ f := by unfold insideV; simp
theorem out_mem1 {f : List Vx} {v x : Vx} : x ∈ sharedV f [v] false ↔ x ∈ f ∧ x ≠ v := by rw [out_mem]; simp
theorem lnk_mem {a : Cx} (ha : GoodX a) {v : Vx} {x : List Vx} : x ∈ lnkC a v ↔ 0 < x.length ∧ ∃ f ∈ a, v ∈ f ∧ x = sharedV f [v] false := by
  unfold lnkC
  rw [maxC_mem, List.mem_map]
  constructor
  · rintro ⟨⟨f, hf, rfl⟩, ht⟩
    obtain ⟨h1, h2⟩ := List.mem_filter.1 hf
    unfold topC at ht
    rw [Bool.and_eq_true] at ht
    exact ⟨of_decide_eq_true ht.1, f, h1, inside_one.1 h2, rfl⟩
  · rintro ⟨h0, f, hf, hv, rfl⟩
    refine ⟨⟨f, List.mem_filter.2 ⟨hf, inside_one.2 hv⟩, rfl⟩, ?_⟩
    unfold topC
    rw [Bool.and_eq_true]
    refine ⟨decide_eq_true h0, ?_⟩
    cases hc : coveredC ((aroundC a [v]).map fun f => sharedV f [v] false) (sharedV f [v] false) with
    | false => rfl
    | true =>
      obtain ⟨y, hy, h1, h2⟩ := coveredC_iff.1 hc
      obtain ⟨g, hg, rfl⟩ := List.mem_map.1 hy
      obtain ⟨g1, g2⟩ := List.mem_filter.1 hg
      have he : f = g := inside_anti ha hf g1 (inside_mem.2 fun y hy => by
        by_cases hyv : y = v
        · subst hyv; exact inside_one.1 g2
        · exact (out_mem1.1 (inside_mem.1 h2 y (out_mem1.2 ⟨hy, hyv⟩))).1)
      rw [he] at h1
      omega
theorem lnk_good {a : Cx} (ha : GoodX a) (v : Vx) : GoodX (lnkC a v) := by
  refine good_max (link_chk ha.2.2.1 [v]) ?_
  have h1 := max_len ((aroundC a [v]).map fun f => sharedV f [v] false)
  have h2 := List.length_filter_le (fun f => insideV [v] f) a
  rw [List.length_map] at h1
  have := ha.1
  exact Nat.le_trans h1 (Nat.le_trans h2 this)
theorem lnk_len (a : Cx) (v : Vx) : (lnkC a v).length ≤ a.length := by
  have h1 := max_len ((aroundC a [v]).map fun f => sharedV f [v] false)
  have h2 := List.length_filter_le (fun f => insideV [v] f) a
  rw [List.length_map] at h1
  exact Nat.le_trans h1 h2
theorem lnk_apart {a b : Cx} (ha : GoodX a) (h : Apart a b) (v : Vx) : Apart (lnkC a v) b := fun s hs t ht x x1 x2 => by
  obtain ⟨_, f, hf, _, rfl⟩ := (lnk_mem ha).1 hs
  exact h f hf t ht x (out_mem1.1 x1).1 x2
theorem out_join {f g : List Vx} (hf : Asc f) {v : Vx} (hg : v ∉ g) : sharedV (allV f g) [v] false = allV (sharedV f [v] false) g := by
  refine asc_ext (List.Pairwise.filter _ (asc_allV hf)) (asc_allV (List.Pairwise.filter _ hf)) fun x => ?_
  rw [out_mem1, mem_allV, mem_allV, out_mem1]
  constructor
  · rintro ⟨h | h, k⟩
    · exact .inl ⟨h, k⟩
    · exact .inr h
  · rintro (h | h)
    · exact ⟨.inl h.1, h.2⟩
    · exact ⟨.inr h, fun hc => hg (hc ▸ h)⟩
theorem dim_lnk {a : Cx} (ha : GoodX a) {v : Vx} (hv : v ∈ ptsC a) : dimC (lnkC a v) ≤ dimC a := by
  have h1 := most_dim (lnkC a v)
  obtain ⟨s, hs, _⟩ := ptsC_mem.1 hv
  have h2 := dim_len hs
  have h3 := (chk_len (ha.2.2.1 s hs)).1
  rcases (most_max (lnkC a v)).2 with h4 | ⟨x, hx, h4⟩
  · omega
  · obtain ⟨_, f, hf, _, rfl⟩ := (lnk_mem ha).1 hx
    have h5 := dim_len hf
    have h6 : (sharedV f [v] false).length ≤ f.length := List.length_filter_le _ _
    omega
theorem join_len {a b : Cx} (h : a.length * b.length ≤ 4096) : (maxC (prodC a b)).length ≤ 4096 := by
  have := max_len (prodC a b)
  rw [prodC_len] at this
  omega
theorem join_good {a b : Cx} (ha : GoodX a) (hb : GoodX b) (hd : dimC a + dimC b + 2 ≤ 8) (hl : a.length * b.length ≤ 4096) : GoodX (maxC (prodC a b)) :=
  good_max (fun s hs _ => prod_chk ha hb hd s hs) (join_len hl)
theorem link_join {a b : Cx} (ha : GoodX a) (hb : GoodX b) (h : Apart a b) (nb : b.length ≠ 0) {v : Vx} (hv : v ∈ ptsC a) (hd : dimC a + dimC b + 2 ≤ 8) (hl : a.length * b.length ≤ 4096) :
    joinP (lnkC a v) b = (lnkC (maxC (prodC a b)) v, 0) := by
  have gL := lnk_good ha v
  have gJ := join_good ha hb hd hl
  have ht := prod_top ha hb h
  have hm : ∀ x, x ∈ maxC (prodC a b) ↔ x ∈ prodC a b := fun x => by
    rw [maxC_mem]
    exact ⟨fun h => h.1, fun h => by rw [← ht] at h; exact List.mem_filter.1 h⟩
  have h0 : twoC (lnkC a v) b = 0 := by unfold twoC; rw [goodX_iff.2 gL, if_neg (by omega)]; exact goodX_iff.2 hb
  have hJ : ∀ x, x ∈ lnkC (maxC (prodC a b)) v ↔ 0 < x.length ∧ ∃ f ∈ a, v ∈ f ∧ ∃ g ∈ b, x = allV (sharedV f [v] false) g := fun x => by
    rw [lnk_mem gJ]
    refine and_congr_right fun _ => ?_
    constructor
    · rintro ⟨y, hy, hvy, rfl⟩
      obtain ⟨f, hf, g, hg, rfl⟩ := prodC_mem.1 ((hm y).1 hy)
      rcases mem_allV.1 hvy with k | k
      · exact ⟨f, hf, k, g, hg, out_join (ha.asc f hf) (h f hf g hg v k)⟩
      · exact absurd (ptsC_mem.2 ⟨g, hg, k⟩) (apart_pts h hv)
    · rintro ⟨f, hf, k, g, hg, rfl⟩
      exact ⟨allV f g, (hm _).2 (prodC_mem.2 ⟨f, hf, g, hg, rfl⟩), mem_allV.2 (.inl k), (out_join (ha.asc f hf) (h f hf g hg v k)).symm⟩
  have pos : ∀ s t : List Vx, 0 < t.length → 0 < (allV s t).length := fun s t h => List.length_pos_of_mem (mem_allV.2 (.inr (List.getElem_mem h)))
  have hb0 : ∀ g ∈ b, 0 < g.length := fun g hg => (chk_len (hb.2.2.1 g hg)).1
  unfold joinP
  rw [if_neg (by omega)]
  by_cases hL : (lnkC a v).length = 0
  · rw [if_pos (.inl hL)]
    have eL : lnkC a v = [] := List.eq_nil_of_length_eq_zero hL
    have hx : ∀ f ∈ a, v ∈ f → sharedV f [v] false = [] := fun f hf k => by
      by_cases h1 : 0 < (sharedV f [v] false).length
      · have := (lnk_mem ha).2 ⟨h1, f, hf, k, rfl⟩
        rw [eL] at this; simp at this
      · exact List.eq_nil_of_length_eq_zero (by omega)
    rw [eL, List.nil_append, max_good hb]
    congr 1
    refine ascL_ext hb.2.1 (maxC_asc _) fun x => ?_
    show x ∈ b ↔ x ∈ lnkC _ v
    rw [hJ]
    obtain ⟨f, hf, k⟩ := ptsC_mem.1 hv
    have e : ∀ g ∈ b, allV [] g = g := fun g hg => asc_ext (asc_allV (by simp [Asc])) (hb.asc g hg) fun y => by rw [mem_allV]; simp
    constructor
    · intro hg
      exact ⟨hb0 x hg, f, hf, k, x, hg, by rw [hx f hf k, e x hg]⟩
    · rintro ⟨_, f', hf', k', g, hg, rfl⟩
      rw [hx f' hf' k', e g hg]; exact hg
  · rw [if_neg (by omega), if_neg (apart_iff.2 (lnk_apart ha h v)), if_neg]
    · congr 1
      have gP : GoodX (maxC (prodC (lnkC a v) b)) := join_good gL hb (by have := dim_lnk ha hv; omega) (Nat.le_trans (Nat.mul_le_mul_right _ (lnk_len a v)) hl)
      refine ascL_ext (maxC_asc _) (maxC_asc _) fun x => ?_
      show _ ↔ x ∈ lnkC _ v
      rw [hJ, maxC_mem]
      have ht2 := prod_top gL hb (lnk_apart ha h v)
      have hin : (x ∈ prodC (lnkC a v) b ∧ topC (prodC (lnkC a v) b) x = true) ↔ x ∈ prodC (lnkC a v) b := ⟨fun h => h.1, fun h => by rw [← ht2] at h; exact List.mem_filter.1 h⟩
      rw [hin, prodC_mem]
      constructor
      · rintro ⟨s, hs, t, ht', rfl⟩
        obtain ⟨_, f, hf, k, rfl⟩ := (lnk_mem ha).1 hs
        exact ⟨pos _ _ (hb0 t ht'), f, hf, k, t, ht', rfl⟩
      · rintro ⟨_, f, hf, k, g, hg, rfl⟩
        refine ⟨_, (lnk_mem ha).2 ⟨?_, f, hf, k, rfl⟩, g, hg, rfl⟩
        obtain ⟨y, hy⟩ := List.exists_mem_of_length_pos (show 0 < (lnkC a v).length by omega)
        obtain ⟨y0, f0, hf0, k0, rfl⟩ := (lnk_mem ha).1 hy
        by_cases h1 : 0 < (sharedV f [v] false).length
        · exact h1
        · exfalso
          have he : f = f0 := inside_anti ha hf hf0 (inside_mem.2 fun z hz => by
            by_cases hzv : z = v
            · rw [hzv]; exact k0
            · have : z ∈ sharedV f [v] false := out_mem1.2 ⟨hz, hzv⟩
              rw [List.eq_nil_of_length_eq_zero (by omega : (sharedV f [v] false).length = 0)] at this
              simp at this)
          rw [he] at h1
          exact h1 y0
    · have h1 := dim_lnk ha hv
      have h2 := Nat.mul_le_mul_right b.length (lnk_len a v)
      omega
end Go.Proofs.YtkedmlandjlogaaGreat
namespace Go.Proofs.YtkedmlandjlogaaGreat
set_option linter.unusedSectionVars false
section
variable {V : Type} [DecidableEq V]
inductive Conn (es : List (V × V)) : V → V → Prop
  | refl (u : V) : Conn es u u
  | step {u v w : V} (h : Conn es u v) (e : (v, w) ∈ es ∨ (w, v) ∈ es) : Conn es u w
theorem Conn.trans {es : List (V × V)} {u v w : V} (h : Conn es u v) (k : Conn es v w) : Conn es u w := by
  induction k with
  | refl => exact h
  | step _ e ih => exact ih.step e
theorem Conn.symm {es : List (V × V)} {u v : V} (h : Conn es u v) : Conn es v u := by
  induction h with
  | refl => exact .refl _
  | step _ e ih => exact (Conn.step (.refl _) e.symm).trans ih
theorem Conn.mono {es es' : List (V × V)} (hs : ∀ e ∈ es, e ∈ es') {u v : V} (h : Conn es u v) : Conn es' u v := by
  induction h with
  | refl => exact .refl _
  | step _ e ih => exact ih.step (e.elim (fun e => .inl (hs _ e)) fun e => .inr (hs _ e))
end
end Go.Proofs.YtkedmlandjlogaaGreat
namespace Go.Proofs.YtkedmlandjlogaaGreat
set_option linter.unusedSectionVars false
theorem eul_abs {l : Cx} {B : Nat} (h : ∀ k, (allC l (k + 1)).length ≤ B) : ∀ k : Nat, -(((B * k : Nat)) : Int) ≤ eulS l k ∧ eulS l k ≤ ((B * k : Nat) : Int)
  | 0 => by show _ ≤ (0 : Int) ∧ (0 : Int) ≤ _; rw [Nat.mul_zero]; omega
  | k + 1 => by
    have h1 := eul_abs h k
    have h2 := h k
    have h3 : B * (k + 1) = B * k + B := Nat.mul_succ _ _
    rw [h3]
    generalize B * k = C at *
    show -_ ≤ (if (k + 1) % 2 = 1 then eulS l k + ((allC l (k + 1)).length : Int) else eulS l k - ((allC l (k + 1)).length : Int)) ∧ (if (k + 1) % 2 = 1 then eulS l k + ((allC l (k + 1)).length : Int) else eulS l k - ((allC l (k + 1)).length : Int)) ≤ _
    split <;> omega
theorem Gd.abs {l : Cx} (h : Gd l) : -2400 ≤ eulS l 8 ∧ eulS l 8 ≤ 2400 := by
  have := eul_abs (l := l) (B := 300) (fun k => h.all (k + 1)) 8
  omega
end Go.Proofs.YtkedmlandjlogaaGreat
namespace Go.Proofs.YtkedmlandjlogaaGreat
theorem link_is {l : Cx} {s : List Vx} (G : GoodX l) (hs : chkV s = 0) (hh : hasC' l s = true) : linkC l s = (maxC ((aroundC l s).map fun f => sharedV f s false), 0) := by
  unfold linkC placeC
  rw [goodX_iff.2 G, if_neg (by decide : ¬ ((0 : Int) ≠ 0)), hs, if_neg (by decide : ¬ ((0 : Int) ≠ 0)), if_pos hh, if_neg (by decide : ¬ ((0 : Int) ≠ 0))]
theorem two_gd {a b : Cx} (ha : GoodX a) (hb : GoodX b) : twoC a b = 0 := by unfold twoC; rw [goodX_iff.2 ha, if_neg (by decide)]; exact goodX_iff.2 hb
theorem eulS_nil : ∀ k, eulS [] k = 0
  | 0 => rfl
  | k + 1 => by
    have h := eulS_nil k
    have e : allC [] (k + 1) = [] := by
      apply List.eq_nil_iff_forall_not_mem.2
      intro x hx
      obtain ⟨f, hf, _⟩ := allC_mem.1 hx
      simp at hf
    show (if (k + 1) % 2 = 1 then eulS [] k + ((allC [] (k + 1)).length : Int) else eulS [] k - ((allC [] (k + 1)).length : Int)) = 0
    rw [h, e]; simp
structure JoinOk (a b J : Cx) : Prop where
  good : GoodX J
  few : J.length ≤ 36
  eul : (1 - eulS a 8) * (1 - eulS b 8) = 1 - eulS J 8
  none : a.length = 0 → J = b
  link : ∀ v ∈ ptsC a, hasC' J [v] = true ∧ joinP (lnkC a v) b = (lnkC J v, 0)
theorem has_one {a : Cx} {v : Vx} (h : v ∈ ptsC a) : hasC' a [v] = true := by
  obtain ⟨s, hs, hv⟩ := ptsC_mem.1 h
  exact hasC_iff.2 ⟨s, hs, inside_one.2 hv⟩
theorem join_cases {a b : Cx} (ga : GoodX a) (gb : GoodX b) (la : a.length ≤ 6) (lb : b.length ≤ 6) : joinP a b = ([], 7) ∨ joinP a b = ([], 5) ∨ ∃ J, joinP a b = (J, 0) ∧ JoinOk a b J := by
  have h0 := two_gd ga gb
  have hmul : a.length * b.length ≤ 6 * 6 := Nat.mul_le_mul la lb
  by_cases ha : a.length = 0
  · have e : a = [] := List.eq_nil_of_length_eq_zero ha
    subst e
    refine .inr (.inr ⟨b, ?_, gb, by omega, ?_, fun _ => rfl, fun v hv => ?_⟩)
    · unfold joinP; rw [if_neg (by omega), if_pos (.inl rfl), List.nil_append, max_good gb]
    · rw [eulS_nil]; omega
    · obtain ⟨s, hs, _⟩ := ptsC_mem.1 hv
      simp at hs
  by_cases hb : b.length = 0
  · have e : b = [] := List.eq_nil_of_length_eq_zero hb
    subst e
    refine .inr (.inr ⟨a, ?_, ga, by omega, ?_, fun h => absurd h ha, fun v hv => ⟨has_one hv, ?_⟩⟩)
    · unfold joinP; rw [if_neg (by omega), if_pos (.inr rfl), List.append_nil, max_good ga]
    · rw [eulS_nil]; omega
    · have g := lnk_good ga v
      unfold joinP
      rw [if_neg (by have := two_gd g gb; omega), if_pos (.inr rfl), List.append_nil, max_good g]
  have na : a ≠ [] := fun h => ha (by rw [h]; rfl)
  have nb : b ≠ [] := fun h => hb (by rw [h]; rfl)
  by_cases hs : 0 < (sharedV (ptsC a) (ptsC b) true).length
  · left; unfold joinP; rw [if_neg (by omega), if_neg (by omega), if_pos hs]
  by_cases hd : 8 < dimC a + dimC b + 2 ∨ 4096 < a.length * b.length
  · right; left; unfold joinP; rw [if_neg (by omega), if_neg (by omega), if_neg hs, if_pos hd]
  have hA := apart_iff.1 hs
  have hd1 : dimC a + dimC b + 2 ≤ 8 := by omega
  have hd2 : a.length * b.length ≤ 4096 := by omega
  have gJ := join_good ga gb hd1 hd2
  refine .inr (.inr ⟨maxC (prodC a b), ?_, gJ, ?_, ?_, fun h => absurd h ha, fun v hv => ⟨?_, link_join ga gb hA hb hv hd1 hd2⟩⟩)
  · unfold joinP; rw [if_neg (by omega), if_neg (by omega), if_neg hs, if_neg hd]
  · have := max_len (prodC a b)
    rw [prodC_len] at this
    omega
  · exact (eul_prod ga gb hA na nb gJ.2.2.1).symm
  · refine has_one (ptsC_mem.2 ?_)
    obtain ⟨s, hs1, hv1⟩ := ptsC_mem.1 hv
    obtain ⟨t, ht⟩ := List.exists_mem_of_ne_nil b nb
    have ht2 := prod_top ga gb hA
    refine ⟨allV s t, maxC_mem.2 ⟨prodC_mem.2 ⟨s, hs1, t, ht, rfl⟩, ?_⟩, mem_allV.2 (.inl hv1)⟩
    have hm : allV s t ∈ prodC a b := prodC_mem.2 ⟨s, hs1, t, ht, rfl⟩
    rw [← ht2] at hm
    exact (List.mem_filter.1 hm).2
theorem eul_few {J : Cx} (g : GoodX J) (h : J.length ≤ 36) : eulC J = (eulS J 8, 0) ∧ -32768 ≤ eulS J 8 ∧ eulS J 8 ≤ 32768 := by
  have h1 : ∀ k, (allC J (k + 1)).length ≤ 4096 := fun k => by
    have := all_le70 g.short (k + 1)
    omega
  refine ⟨eul_is g h1, ?_⟩
  have := eul_abs (B := 4096) h1 8
  omega
theorem one_chk {a : Cx} (ga : GoodX a) {v : Vx} (h : v ∈ ptsC a) : chkV [v] = 0 := by
  obtain ⟨s, hs, hv⟩ := ptsC_mem.1 h
  obtain ⟨_, _, h3, _⟩ := chkV_zero.1 (ga.2.2.1 s hs)
  exact chkV_zero.2 ⟨by simp, by simp, fun u hu => by rw [List.mem_singleton.1 hu]; exact h3 v hv, by simp [Asc]⟩
theorem pts_pos {a : Cx} (ga : GoodX a) : (ptsC a).length = 0 ↔ a.length = 0 := by
  constructor
  · intro h
    cases a with
    | nil => rfl
    | cons s a =>
      have h1 := (chk_len (ga.2.2.1 s (by simp))).1
      have : s[0] ∈ ptsC (s :: a) := ptsC_mem.2 ⟨s, by simp, List.getElem_mem h1⟩
      rw [List.eq_nil_of_length_eq_zero h] at this
      simp at this
  · intro h
    have e : a = [] := List.eq_nil_of_length_eq_zero h
    subst e; rfl
theorem rem_ok {w : Int} {n : Nat} (hw : 0 ≤ w) (hn : 0 < n) : ∃ q : Nat, w.tmod (n : Int) = (q : Int) ∧ q < n := by
  refine ⟨(w.tmod n).toNat, ?_, ?_⟩
  · rw [Int.toNat_of_nonneg (Int.tmod_nonneg _ hw)]
  · have h1 := Int.tmod_lt_of_pos w (show (0 : Int) < n by omega)
    have h2 := Int.tmod_nonneg (n : Int) hw
    omega
end Go.Proofs.YtkedmlandjlogaaGreat
namespace Go.Proofs.YtkedmlandjlogaaGreat.M
open Go.RowKit

section
variable {P : Program} {ops : Array Oper} {hp : List HObj} {fr : List Dat} {dst : Option Tmp} {ty : TypeId} {ps : String} {af : Array Edge} {g : Option (Nat × Bool)} {t e : TypeId} {n bytes : Nat} {z : Value} {ag : Bool}
theorem SY.buildE (E : ElT P t e n z bytes ag) {α : Type} {R : Rel α} {_gR : Good R} {len : Nat} {parts : Array (Nat × Operand)} {els : List α} (hx : ElsD fr R (parts.toList.map Prod.snd) els) (hparts : parts.toList = ((parts.toList.map Prod.snd).zipIdx).map (fun p => (p.2, p.1))) (hl : len = els.length) (hn : 0 < n) (hs : ∀ a, (dS R a).Shape n true) (hsm : els.length * n ≤ 16777216) :
    SY P ops hp { dst := dst, op := .buildSlice t len parts, type := ty, pos := ps, after := af, guard := g } fr (dS (ArrK n R) els) := SY.buildK E hx hparts hl hn hs hsm
end
theorem cmpL_one (x y : Vx) : cmpL [x] [y] = cmpV x y := by
  unfold cmpL
  by_cases h : cmpV x y = 0
  · rw [if_pos h, h]; rfl
  · rw [if_neg h]
theorem vtx_p (x y : Vx) : Fn Tryz.prog 146 [dS RV x, dS RV y] (dI (cmpV x y)) := by
  (refine Fn.intro1 Tryz.func146 rfl rfl ?_; simp only [Tryz.ntmps146, List.length_cons, List.length_nil, Nat.reduceAdd, Nat.reduceSub, List.replicate_succ, List.replicate_zero, List.cons_append, List.nil_append])
  ((repeat' (first | (apply WL.opG; (focus (apply SYG.yes; (exact want_none rfl); (first | (apply SY.assign <;> (exact oD)) | (apply SY.load; (exact tD); (exact OpD.t rfl))))); dsimp only [setD, z0, z1]) | refine WL.nil ?_ | refine WC.seqK fun Kx hK => ?_ | (refine hK _ _ ?_; clear hK) | refine WC.region ?_ | (apply WL.opG; (focus (apply SYG.yes; (exact want_none rfl); ((first | (apply SY.call (cmpL_p [x] [y]) Tryz.call93; (exact aD)) | (apply SY.buildE; (first | exact eD | exact elC); ((try simp only [List.map_cons, List.map_nil]); (repeat (first | exact ElsD.nl | (apply ElsD.cn; (first | exact OpD.t rfl | exact OpD.i | exact OpD.b | exact OpD.tle rfl (by first | exact Dat.le_nil | exact Dat.le_nilK (by decide)) | exact ⟨Dat.le_nil⟩ | exact ⟨Dat.le_nilK (by decide)⟩))))); rfl; rfl; decide; (intro _; exact shape_V); (exact (by simp))) | (apply SY.box; (exact oD); (exact hD)) | fail); all_goals infer_instance))); dsimp only [setD, z0, z1]) | refine WC.ret ?_)); all_goals (first | refine WC.id ?_ | refine WL.id ?_ | refine WDs.id ?_ | ((repeat clear hK); (repeat clear Kx))))
  all_goals (rw [cmpL_one]; (refine ⟨trivial, _, rfl, ?_⟩; (first | exact fD | refine FinD.i ?_ | refine FinD.b ?_ | refine FinD.rowKE (.head _) ?_ | refine FinD.rowE (.head _) ?_ | refine FinD.nilKE (by decide) ?_ | refine FinD.nilE ?_ | refine FinD.s ?_)); try rfl)
theorem vtx_x (x y : Vx) (w : World) : Calls Tryz.prog 146 #[.agg #[.int .i64 x.1, .int .i64 x.2], .agg #[.int .i64 y.1, .int .i64 y.2]] w fun e w' => e = .returned (.int .i64 (cmpV x y)) ∧ ∃ q os', w' = Go.Sort.grow (w.drewN q) os' := by
  have := (vtx_p x y).out (fun _ => True) w [.agg #[.int .i64 x.1, .int .i64 x.2], .agg #[.int .i64 y.1, .int .i64 y.2]] rfl (fun i d hd => by
    match i with
    | 0 => cases hd; rfl
    | 1 => cases hd; rfl
    | i + 2 => simp at hd)
  exact this.mono fun e w' ⟨v, h1, h2, h3⟩ => ⟨by rw [h1]; exact congrArg _ h3, h2.grow⟩
end Go.Proofs.YtkedmlandjlogaaGreat.M
