/- Part 42 -/
import Derived.Deep.SlicePairs
import Derived.Lib.SmallJoins
import Derived.Test.YtgppfikidagfpaaGreatDoorRows
import Derived.Test.YtgppfikidagfpaaGreatDoorVe41
set_option linter.unusedVariables false
set_option linter.unusedSimpArgs false
set_option linter.unusedSectionVars false
namespace Go.Proofs.YtgppfikidagfpaaGreatDoor
def orM (t : List Vx) : Nat := t.foldl (fun m v => m ||| v.2.toNat) 0
theorem orM_test (i : Nat) : ∀ (t : List Vx) (m : Nat), (t.foldl (fun m (v : Vx) => m ||| v.2.toNat) m).testBit i = (m.testBit i || t.any fun v => v.2.toNat.testBit i)
  | [], m => by simp
  | v :: t, m => by
    rw [List.foldl_cons, orM_test i t, Nat.testBit_or, List.any_cons, Bool.or_assoc]
theorem orM_bit {t : List Vx} {i : Nat} : (orM t).testBit i = true ↔ ∃ v ∈ t, v.2.toNat.testBit i = true := by
  unfold orM
  rw [orM_test, Nat.zero_testBit, Bool.false_or, List.any_eq_true]
theorem bit_one {m i : Nat} : (m >>> i) &&& 1 = 1 ↔ m.testBit i = true := by
  have h : (m >>> i) &&& 1 = (m.testBit i).toNat := by
    rw [Nat.and_one_is_mod, Nat.shiftRight_eq_div_pow, Nat.toNat_testBit]
  rw [h]
  cases m.testBit i <;> decide
theorem mem_atB {s : List Vx} {m : Nat} {x : Vx} : x ∈ atB s m ↔ ∃ (i : Nat) (h : i < s.length), s[i] = x ∧ m.testBit i = true := by
  unfold atB
  rw [List.mem_map]
  constructor
  · rintro ⟨⟨v, i⟩, hp, rfl⟩
    rw [List.mem_filter, decide_eq_true_eq, bit_one] at hp
    have h := List.mem_zipIdx hp.1
    exact ⟨i, by omega, by simpa using h.2.2.symm, hp.2⟩
  · rintro ⟨i, h, rfl, hb⟩
    refine ⟨(s[i], i), ?_, rfl⟩
    rw [List.mem_filter, decide_eq_true_eq, bit_one]
    exact ⟨List.mem_zipIdx_iff_getElem?.2 (by simp [h]), hb⟩
theorem atB_subl (s : List Vx) (m : Nat) : (atB s m).Sublist s := by
  unfold atB
  have h : ((s.zipIdx.filter fun p => decide ((m >>> p.2) &&& 1 = 1)).map (·.1)).Sublist (s.zipIdx.map (·.1)) := List.Sublist.map _ List.filter_sublist
  rwa [List.zipIdx_map_fst] at h
theorem asc_nodup' {s : List Vx} (h : Asc s) : s.Nodup := List.Pairwise.imp (fun {a b} hab e => by
  subst e
  have : cmpV a a = 0 := cmpV_eq.2 rfl
  omega) h
theorem atB_short {s : List Vx} (hs : s.Nodup) {m : Nat} (hm : m < 2 ^ s.length) : (atB s m).length < s.length ↔ m ≠ 2 ^ s.length - 1 := by
  have hl := (atB_subl s m).length_le
  constructor
  · rintro h rfl
    have e : atB s (2 ^ s.length - 1) = s := by
      unfold atB
      rw [List.filter_eq_self.2 fun p hp => by
        obtain ⟨v, i⟩ := p
        have h := List.mem_zipIdx hp
        rw [decide_eq_true_eq, bit_one, Nat.testBit_two_pow_sub_one, decide_eq_true_eq]
        omega]
      exact List.zipIdx_map_fst ..
    rw [e] at h
    omega
  · intro h
    refine Classical.byContradiction fun hn => h ?_
    have e : atB s m = s := (atB_subl s m).eq_of_length (by omega)
    apply Nat.eq_of_testBit_eq
    intro i
    rw [Nat.testBit_two_pow_sub_one]
    by_cases hi : i < s.length
    · rw [decide_eq_true hi]
      have : s[i] ∈ atB s m := by rw [e]; exact List.getElem_mem hi
      obtain ⟨j, hj, h1, h2⟩ := mem_atB.1 this
      rw [(List.getElem_inj hs).1 h1] at h2
      exact h2
    · rw [decide_eq_false hi]
      exact Nat.testBit_lt_two_pow (Nat.lt_of_lt_of_le hm (Nat.pow_le_pow_right (by decide) (by omega)))
theorem vert_is {s : List Vx} (h : GoodS s) {v : Vx} (hv : v ∈ (facB s).flatten) : ∃ (i : Nat) (hi : i < s.length) (m : Nat), v = (s[i].1, (m : Int)) ∧ m.testBit i = true ∧ 1 ≤ m ∧ m < 2 ^ s.length := by
  obtain ⟨f, hf, hvf⟩ := List.mem_flatten.1 hv
  obtain ⟨bl, hbl, rfl⟩ := List.mem_map.1 hf
  obtain ⟨i, hi, e⟩ := List.mem_iff_getElem.1 hvf
  have hi' : i < s.length := by rw [placeB_len] at hi; exact hi
  obtain ⟨a1, a2, _⟩ := fac_at h hbl hi' hi'
  rw [place_get hi hi'] at e
  have : bitB (snapB bl i 0) i = true ↔ (snapB bl i 0).testBit i = true := by
    unfold bitB
    rw [decide_eq_true_eq, bit_one]
  exact ⟨i, hi', _, e.symm, this.1 a1, a2.1, a2.2⟩
theorem car_is {s : List Vx} (h : GoodS s) {v : Vx} (hv : v ∈ (facB s).flatten) : chkV (carB s v) = 0 ∧ insideV (carB s v) s = true := by
  obtain ⟨h1, h2, h3, h4⟩ := chkV_zero.1 h.1
  obtain ⟨i, hi, m, rfl, hb, _, _⟩ := vert_is h hv
  have hs := atB_subl s m
  have e : carB s (s[i].1, (m : Int)) = atB s m := by unfold carB; rw [Int.toNat_natCast]
  have hmem : s[i] ∈ atB s m := mem_atB.2 ⟨i, hi, rfl, hb⟩
  rw [e]
  refine ⟨chkV_zero.2 ⟨fun q => ?_, by have := hs.length_le; omega, fun x hx => h3 x (hs.subset hx), List.Pairwise.sublist hs h4⟩, ?_⟩
  · rw [List.length_eq_zero_iff.1 q] at hmem; cases hmem
  · unfold insideV
    exact List.all_eq_true.2 fun x hx => decide_eq_true (hs.subset hx)
theorem un_at {s : List Vx} (h : GoodS s) {t : List Vx} (ht : ∀ v ∈ t, v ∈ (facB s).flatten) : unR (allV [] (facB s).flatten) ((allV [] (facB s).flatten).map (carB s)) t = atB s (orM t) := by
  obtain ⟨_, _, _, h4⟩ := chkV_zero.1 h.1
  refine asc_ext (unR_asc _ _ _) (List.Pairwise.sublist (atB_subl _ _) h4) fun x => ?_
  rw [mem_unR, mem_atB]
  constructor
  · rintro ⟨k, hk, hk', h1, h2⟩
    rw [List.getElem_map] at h2
    have hv := ht _ h1
    obtain ⟨i, hi, h5, h6⟩ := mem_atB.1 h2
    exact ⟨i, hi, h5, orM_bit.2 ⟨_, h1, h6⟩⟩
  · rintro ⟨i, hi, h5, h6⟩
    obtain ⟨v, hv, h7⟩ := orM_bit.1 h6
    obtain ⟨k, hk, rfl⟩ := List.mem_iff_getElem.1 (mem_allV.2 (.inr (ht v hv)) : v ∈ allV [] (facB s).flatten)
    exact ⟨k, hk, by rw [List.length_map]; exact hk, hv, by rw [List.getElem_map]; exact mem_atB.2 ⟨i, hi, h5, h7⟩⟩
theorem orM_lt {s : List Vx} (h : GoodS s) {t : List Vx} (ht : ∀ v ∈ t, v ∈ (facB s).flatten) : orM t < 2 ^ s.length := by
  apply Nat.lt_pow_two_of_testBit
  intro i hi
  cases hb : (orM t).testBit i with
  | false => rfl
  | true =>
    obtain ⟨v, hv, h7⟩ := orM_bit.1 hb
    obtain ⟨j, hj, m, rfl, _, _, hm⟩ := vert_is h (ht v hv)
    rw [Int.toNat_natCast] at h7
    rw [Nat.testBit_lt_two_pow (Nat.lt_of_lt_of_le hm (Nat.pow_le_pow_right (by decide) hi))] at h7
    cases h7
theorem pts_fac {s : List Vx} (h : GoodS s) : allV [] (facB s).flatten = ptsC (maxC (facB s)) := by
  unfold ptsC
  refine asc_ext (asc_allV (by simp [Asc])) (asc_allV (by simp [Asc])) fun x => ?_
  rw [mem_allV, mem_allV, List.mem_flatten, List.mem_flatten]
  constructor
  · rintro (q | ⟨f, hf, hx⟩)
    · exact .inl q
    · exact .inr ⟨f, (mem_fac h).2 hf, hx⟩
  · rintro (q | ⟨f, hf, hx⟩)
    · exact .inl q
    · exact .inr ⟨f, (mem_fac h).1 hf, hx⟩
theorem carE_ok {c : Cx} : ∀ {l : List (List Vx)}, (∀ s ∈ l, chkV s = 0 ∧ hasC' c s = true) → carE c l = 0
  | [], _ => rfl
  | s :: l, h => by
    obtain ⟨h1, h2⟩ := h s (by simp)
    unfold carE
    rw [if_neg (by rw [h1]; decide), if_neg (by rw [h2]; decide)]
    exact carE_ok fun t ht => h t (by simp [ht])
theorem one_good {s : List Vx} (h : chkV s = 0) : GoodX [s] := ⟨by simp, by simp [AscL], fun t ht => by rw [List.mem_singleton.1 ht]; exact h, fun t ht => by
  cases List.mem_singleton.1 ht
  have : ¬ coveredC [s] s = true := fun q => by
    obtain ⟨x, hx, h1, _⟩ := coveredC_iff.1 q
    cases List.mem_singleton.1 hx
    omega
  simpa using this⟩
theorem sub_checks {s : List Vx} (h : GoodS s) : chk29 (okP [s] (allV [] (facB s).flatten) ((allV [] (facB s).flatten).map (carB s))) [s] (maxC (facB s)) (allV [] (facB s).flatten) ((allV [] (facB s).flatten).map (carB s)) = 0 := by
  obtain ⟨_, hG, _⟩ := fac_of h.1 h.2.1 (by have := h.2.2; omega)
  obtain ⟨h1, h2, h3, h4⟩ := chkV_zero.1 h.1
  have hin : ∀ t : List Vx, t.Sublist s → hasC' [s] t = true := fun t ht => by
    unfold hasC' insideV
    simp only [List.any_cons, List.any_nil, Bool.or_false]
    exact List.all_eq_true.2 fun x hx => decide_eq_true (ht.subset hx)
  have hc : ∀ c ∈ (allV [] (facB s).flatten).map (carB s), chkV c = 0 ∧ hasC' [s] c = true := fun c hc => by
    obtain ⟨v, hv, rfl⟩ := List.mem_map.1 hc
    have hv' : v ∈ (facB s).flatten := by rcases mem_allV.1 hv with q | q; cases q; exact q
    refine ⟨(car_is h hv').1, ?_⟩
    exact hin _ (atB_subl _ _)
  unfold chk29
  rw [if_neg (by rw [goodX_iff.2 (one_good h.1)]; decide), if_neg (by rw [goodX_iff.2 hG]; decide), if_neg (not_not_intro ⟨pts_fac h, by rw [List.length_map]⟩), if_neg (by rw [carE_ok hc]; decide), if_pos]
  refine List.all_eq_true.2 fun f hf => ?_
  have hfl : ∀ v ∈ f, v ∈ (facB s).flatten := fun v hv => List.mem_flatten.2 ⟨f, (mem_fac h).1 hf, hv⟩
  have hu : unP (allV [] (facB s).flatten) ((allV [] (facB s).flatten).map (carB s)) f = atB s (orM f) := by
    rw [unP_is (asc_allV (by simp [Asc])) (by rw [List.length_map]) (fun c hc' => (hc c hc').1), un_at h hfl, if_neg]
    have := (atB_subl s (orM f)).length_le; omega
  have hne : atB s (orM f) ≠ [] := fun e => by
    have hl := facB_len ((mem_fac h).1 hf)
    have hx : f[0]'(by omega) ∈ f := List.getElem_mem _
    obtain ⟨i, hi, m, e2, hb, _, _⟩ := vert_is h (hfl _ hx)
    have : s[i] ∈ atB s (orM f) := mem_atB.2 ⟨i, hi, rfl, orM_bit.2 ⟨_, hx, by rw [e2, Int.toNat_natCast]; exact hb⟩⟩
    rw [e] at this; cases this
  have hk : chkV (atB s (orM f)) = 0 := chkV_zero.2 ⟨fun q => hne (List.length_eq_zero_iff.1 q), by have := (atB_subl s (orM f)).length_le; omega, fun x hx => h3 x ((atB_subl s _).subset hx), List.Pairwise.sublist (atB_subl s _) h4⟩
  unfold okP
  rw [hu]
  unfold contC plC
  rw [if_neg (show ¬ chkC [s] ≠ 0 by rw [goodX_iff.2 (one_good h.1)]; decide), if_neg (by rw [hk]; decide), hin _ (atB_subl s _)]
  rfl
def bndK (l : Cx) (k : Nat) : Cx := (allC l k).filter (oneC l)
def chkN (n : Nat) : Bool :=
  let F := maxC (facB (canS n))
  decide (dimC F = ((n : Nat) : Int) - 1) && sizeP F && (allC F (n - 1)).all (okC F) && decide (eulS F 8 = 1) && decide (0 < (bndK F (n - 1)).length) &&
    (allC F (n - 1)).all fun t => decide (hasC' (bndK F (n - 1)) t = decide (orM t ≠ 2 ^ n - 1))
theorem chkN2 : chkN 2 = true := by decide +kernel
theorem chkN3 : chkN 3 = true := by decide +kernel
theorem chkN4 : chkN 4 = true := by decide +kernel
theorem ord_len4 : ∀ n, n ≤ 4 → (ordP (2 ^ n - 1)).length ≤ 75 := by
  intro n h5
  have : n = 0 ∨ n = 1 ∨ n = 2 ∨ n = 3 ∨ n = 4 := by omega
  rcases this with rfl | rfl | rfl | rfl | rfl <;> decide +kernel
theorem fac_len4 {s : List Vx} (h : GoodS s) : (maxC (facB s)).length ≤ 75 := by
  have h1 := List.Nodup.length_le_of_subset (maxC_asc (facB s)).nodup fun x hx => (mem_fac h).1 hx
  have h3 : (facB s).length = (ordP (2 ^ s.length - 1)).length := by unfold facB; rw [List.length_map]
  have := ord_len4 s.length h.2.2
  omega
theorem all_len4 {s : List Vx} (h : GoodS s) (k : Nat) : (allC (maxC (facB s)) k).length ≤ 1200 := by
  have h1 : (allC (maxC (facB s)) k).length ≤ 16 * (maxC (facB s)).length := all_few fun t ht => by
    have h2 := facB_len ((mem_fac h).1 ht)
    have h3 := h.2.2
    exact Nat.le_trans (subsV_len k t) (Nat.pow_le_pow_right (n := 2) (by decide) (show t.length ≤ 4 by omega))
  have := fac_len4 h
  omega
theorem bounds_plain {s : List Vx} (h : GoodS s) (h2 : 2 ≤ s.length) : ∃ b T : Cx, bndP (maxC (facB s)) = (b, 0) ∧ 0 < b.length ∧ eulC (maxC (facB s)) = (1, 0) ∧ simplC (maxC (facB s)) ((s.length : Int) - 1) = (T, 0) ∧ T.length ≤ 1200 ∧
    ∀ t ∈ T, ∃ u : List Vx, car29 (chk29 (okP [s] (allV [] (facB s).flatten) ((allV [] (facB s).flatten).map (carB s))) [s] (maxC (facB s)) (allV [] (facB s).flatten) ((allV [] (facB s).flatten).map (carB s))) (unP (allV [] (facB s).flatten) ((allV [] (facB s).flatten).map (carB s)) t) (maxC (facB s)) t = (u, 0) ∧
      contC b t = (decide (u.length < s.length), 0) := by
  obtain ⟨_, hG, _⟩ := fac_of h.1 h.2.1 (by have := h.2.2; omega)
  obtain ⟨h1, _, h3, h4⟩ := chkV_zero.1 h.1
  have h44 := h.2.2
  obtain ⟨φ, hφ, hl, hp, hF⟩ := can_map (ascC_of h4 h.2.1)
  have hck : chkN s.length = true := by
    have : s.length = 2 ∨ s.length = 3 ∨ s.length = 4 := by omega
    rcases this with e | e | e <;> rw [e]
    · exact chkN2
    · exact chkN3
    · exact chkN4
  have hFm : maxC (facB s) = mpC φ (maxC (facB (canS s.length))) := by rw [hF, nat_max hφ]
  have hmem : ∀ t ∈ allC (maxC (facB s)) (s.length - 1), ∀ v ∈ t, v ∈ (facB s).flatten := fun t ht v hv => by
    obtain ⟨f, hf, hs⟩ := allC_mem.1 ht
    exact List.mem_flatten.2 ⟨f, (mem_fac h).1 hf, ((subsV_mem _ _ _).1 hs).1.subset hv⟩
  have hT := all_len4 h
  unfold chkN at hck
  simp only [Bool.and_eq_true, decide_eq_true_eq] at hck
  obtain ⟨⟨⟨⟨⟨k1, k2⟩, k3⟩, k4⟩, k5⟩, k6⟩ := hck
  generalize hF0 : maxC (facB (canS s.length)) = F0 at *
  have hall : allC (maxC (facB s)) (s.length - 1) = mpC φ (allC F0 (s.length - 1)) := by rw [hFm, nat_allC hφ]
  have hb : (allC (maxC (facB s)) (s.length - 1)).filter (oneC (maxC (facB s))) = mpC φ (bndK F0 (s.length - 1)) := by
    rw [hall]
    unfold bndK mpC
    rw [List.filter_map]
    congr 1
    refine List.filter_congr fun x _ => ?_
    show oneC (maxC (facB s)) (x.map φ) = oneC F0 x
    rw [hFm, nat_one hφ]
  have hdim : dimC (maxC (facB s)) = (s.length : Int) - 1 := by rw [hFm, nat_dim, k1]
  have hdn : (dimC (maxC (facB s))).toNat = s.length - 1 := by rw [hdim]; omega
  have hbnd : bndP (maxC (facB s)) = (mpC φ (bndK F0 (s.length - 1)), 0) := by
    unfold bndP
    rw [if_neg (by rw [goodX_iff.2 hG]; decide), if_neg, hdn, if_pos, hb]
    · rw [hall]
      refine List.all_eq_true.2 fun x hx => ?_
      obtain ⟨y, hy, rfl⟩ := List.mem_map.1 hx
      rw [hFm, nat_ok hφ]
      exact List.all_eq_true.1 k3 y hy
    · rintro (q | q)
      · rw [hdim] at q; omega
      · rw [hFm, nat_size, k2] at q; cases q
  have hbG : GoodX (mpC φ (bndK F0 (s.length - 1))) := by
    rw [← hb]
    refine ⟨by have := List.length_filter_le (oneC (maxC (facB s))) (allC (maxC (facB s)) (s.length - 1)); have := hT (s.length - 1); omega, List.Pairwise.sublist List.filter_sublist (allC_asc _ _), fun t ht => ?_, fun t ht => ?_⟩
    · obtain ⟨f, hf, hs⟩ := allC_mem.1 (List.mem_filter.1 ht).1
      exact (face_good (hG.2.2.1 f hf) (by omega) hs).1
    · have hlen : ∀ x ∈ (allC (maxC (facB s)) (s.length - 1)).filter (oneC (maxC (facB s))), x.length = s.length - 1 := fun x hx => by
        obtain ⟨f, hf, hs⟩ := allC_mem.1 (List.mem_filter.1 hx).1
        exact subsV_el _ _ _ hs
      have : ¬ coveredC ((allC (maxC (facB s)) (s.length - 1)).filter (oneC (maxC (facB s)))) t = true := fun q => by
        obtain ⟨x, hx, h1, _⟩ := coveredC_iff.1 q
        have := hlen x hx
        have := hlen t ht
        omega
      simpa using this
  refine ⟨_, _, hbnd, by rw [List.length_map]; exact k5, ?_, ?_, hT (s.length - 1), fun t ht => ?_⟩
  · unfold eulC
    rw [if_neg (by rw [goodX_iff.2 hG]; decide), if_neg, hFm, nat_eulS hφ, k4]
    rw [Bool.not_eq_true, List.any_eq_false]
    intro k _
    have := hT (k + 1)
    rw [decide_eq_true_eq]
    omega
  · unfold simplC
    rw [if_neg (by rw [goodX_iff.2 hG]; decide), if_neg (by omega), show ((s.length : Int) - 1).toNat = s.length - 1 by omega, if_neg (by have := hT (s.length - 1); omega)]
  · have hv := hmem t ht
    obtain ⟨f, hf, hs⟩ := allC_mem.1 ht
    have hk := (face_good (hG.2.2.1 f hf) (by omega) hs).1
    have hsub := ((subsV_mem _ _ _).1 hs).1
    have hu : unP (allV [] (facB s).flatten) ((allV [] (facB s).flatten).map (carB s)) t = atB s (orM t) := by
      rw [unP_is (asc_allV (by simp [Asc])) (by rw [List.length_map]) (fun c hc' => by
        obtain ⟨v, hv, rfl⟩ := List.mem_map.1 hc'
        exact (car_is h (by rcases mem_allV.1 hv with q | q; cases q; exact q)).1), un_at h hv, if_neg]
      have := (atB_subl s (orM t)).length_le; omega
    refine ⟨atB s (orM t), ?_, ?_⟩
    · have hh : hasC' (maxC (facB s)) t = true := List.any_eq_true.2 ⟨f, hf, List.all_eq_true.2 fun x hx => decide_eq_true (hsub.subset hx)⟩
      rw [sub_checks h, hu]
      unfold car29
      rw [if_neg (by decide), if_neg (by rw [hk]; decide), if_neg (by rw [hh]; decide)]
    · unfold contC plC
      rw [if_neg (show ¬ chkC (mpC φ (bndK F0 (s.length - 1))) ≠ 0 by rw [goodX_iff.2 hbG]; decide), if_neg (by rw [hk]; decide)]
      rw [hall] at ht
      obtain ⟨y, hy, rfl⟩ := List.mem_map.1 ht
      have h6 := of_decide_eq_true (List.all_eq_true.1 k6 y hy)
      have ho : orM (y.map φ) = orM y := by
        unfold orM
        rw [List.foldl_map]
        congr 1
        funext m v
        rw [hl]
      rw [nat_has hφ, h6, ho]
      have := orM_lt h hv
      rw [ho] at this
      exact congrArg (fun b => (b, (0 : Int))) (decide_eq_decide.2 (atB_short (asc_nodup' h4) this).symm)
end Go.Proofs.YtgppfikidagfpaaGreatDoor
namespace Go.Proofs.YtgppfikidagfpaaGreatDoor
open Go.RowKit
section
variable {ops : Array Oper} {hp : List HObj} {fr : List Dat} {dst : Option Tmp} {ty : TypeId} {ps : String} {af : Array Edge} {g : Option (Nat × Bool)} {x y : Operand}
theorem SY.lssE {T T2 : TypeId} {p q : Int} {c : Bool} (h : decide (p < q) = c) (hx : OpD fr x (dI p)) (hy : OpD fr y (dI q)) : SY Tryz.prog ops hp { dst := dst, op := .binOp .lss T x y T2, type := ty, pos := ps, after := af, guard := g } fr (dB c) := h ▸ SY.lss hx hy
theorem SY.eqlE {T T2 : TypeId} {p q : Int} {c : Bool} (h : decide (p = q) = c) (hx : OpD fr x (dI p)) (hy : OpD fr y (dI q)) : SY Tryz.prog ops hp { dst := dst, op := .binOp .eql T x y T2, type := ty, pos := ps, after := af, guard := g } fr (dB c) := h ▸ SY.eql hx hy
theorem SY.neqB0 {p : Bool} (hx : OpD fr x (dB p)) (hy : OpD fr y (dB p)) : SY Tryz.prog ops hp { dst := dst, op := .binOp .neq 4 x y 4, type := ty, pos := ps, after := af, guard := g } fr (dB false) := by
  have h := SY.neqB (T2 := 4) (P := Tryz.prog) (ops := ops) (hp := hp) (dst := dst) (ty := ty) (ps := ps) (af := af) (g := g) hx hy nqBB
  rwa [show (p != p) = false by cases p <;> rfl] at h
theorem SY.add00' {T T2 : TypeId} (hx : OpD fr x (dI 0)) (hy : OpD fr y (dI 0)) : SY Tryz.prog ops hp { dst := dst, op := .binOp .add T x y T2, type := ty, pos := ps, after := af, guard := g } fr (dI 0) := SY.add hx hy (by omega)
end
theorem vert_len {s : List Vx} (h : GoodS s) : (allV [] (facB s).flatten).length ≤ 64 := by
  have hn : (allV [] (facB s).flatten).Nodup := asc_nodup' (asc_allV (by simp [Asc]))
  have h44 := h.2.2
  have := List.Nodup.length_le_of_subset hn (l₂ := s.flatMap fun v => (List.range 16).map fun m => ((v.1, ((m : Nat) : Int)) : Vx)) fun v hv => by
    have hv' : v ∈ (facB s).flatten := by rcases mem_allV.1 hv with q | q; cases q; exact q
    obtain ⟨i, hi, m, rfl, _, _, hm⟩ := vert_is h hv'
    have h16 : 2 ^ s.length ≤ 16 := Nat.pow_le_pow_right (n := 2) (by decide) (show s.length ≤ 4 by omega)
    exact List.mem_flatMap.2 ⟨s[i], List.getElem_mem hi, List.mem_map.2 ⟨m, List.mem_range.2 (by omega), rfl⟩⟩
  have e : ∀ l : List Vx, (l.flatMap fun v => (List.range 16).map fun m => ((v.1, ((m : Nat) : Int)) : Vx)).length = 16 * l.length := by
    intro l
    induction l with
    | nil => rfl
    | cons v l ih => rw [List.flatMap_cons, List.length_append, ih, List.length_map, List.length_range, List.length_cons]; omega
  rw [e] at this
  omega
set_option linter.unusedSimpArgs false

set_option maxHeartbeats 2000000
set_option maxRecDepth 100000
set_option maxHeartbeats 16000000 in
theorem bounds29_p (s : List Vx) : Fn Tryz.prog 8 [dS Verts s] (dB true) := by
  have cg := good29_p s
  have ca := awake29_p
  by_cases hg : GoodS s
  · rw [show gd29 s = true from decide_eq_true hg] at cg
    by_cases h2 : 2 ≤ s.length
    · have cS := simplex29_p s
      rw [show subP s = ((maxC (facB s), allV [] (facB s).flatten, (allV [] (facB s).flatten).map (carB s)), 0) by unfold subP; rw [if_neg (by rw [hg.1]; decide), if_neg (by rw [hg.2.1]; decide), if_neg (by have := hg.2.2; omega)]] at cS
      obtain ⟨b, T, b1, b2, b3, b4, b5, b6⟩ := bounds_plain hg h2
      have h75 := fac_len4 hg
      have hvl := vert_len hg
      have hcl : ((allV [] (facB s).flatten).map (carB s)).length ≤ 100 := by rw [List.length_map]; omega
      have c1 := boundary27_p (maxC (facB s))
      rw [b1] at c1
      have c2 := euler27_p (maxC (facB s))
      rw [b3] at c2
      have c3 := simplices27_p (maxC (facB s)) ((s.length : Int) - 1)
      rw [b4] at c3
      have cA := fun t => car29_p [s] (maxC (facB s)) (allV [] (facB s).flatten) ((allV [] (facB s).flatten).map (carB s)) t (by omega) hcl
      have hs4 := hg.2.2
      have hb0 : decide ((b.length : Int) = 0) = false := decide_eq_false (by omega)
      have hs0 : decide ((s.length : Int) < 2) = false := decide_eq_false (by omega)
      generalize maxC (facB s) = F at *
      generalize (allV [] (facB s).flatten).map (carB s) = C at *
      generalize allV [] (facB s).flatten = V at *
      (refine Fn.intro1 Tryz.func8 rfl rfl ?_; simp only [Tryz.ntmps8, List.length_cons, List.length_nil, Nat.reduceAdd, Nat.reduceSub, List.replicate_succ, List.replicate_zero, List.cons_append, List.nil_append])
      (repeat' (first |  (refine WC.freezeC (t := 3) rfl ?_; dsimp only [z0, z1]) |  (refine WC.freezeC (t := 6) rfl ?_; dsimp only [z0, z1]) |  (refine WC.freezeC (t := 4) rfl ?_; dsimp only [z0, z1]) | (apply WL.opN; exact yF; dsimp only [setD, z0, z1]) | refine WL.nil ?_ | refine WC.seqK fun Kx hK => ?_ | (refine hK _ _ ?_; clear hK) | refine WC.region ?_ |  (refine WL.alloc tzC (shape_C0 rfl) fun b3 => ?_; dsimp only [setD, z0, z1]) |  (refine WL.storeK tyC (OpD.t rfl) (OpD.t rfl) shape_C ?_; dsimp only [setD, z0, z1]) |  (refine WL.alloc tzSb (shape_X3 rfl rfl rfl) fun b4 => ?_; dsimp only [setD, z0, z1]) |  (refine WL.storeK tySb (OpD.t rfl) (OpD.t rfl) shape_R3 ?_; dsimp only [setD, z0, z1]) | (apply WL.opG; (focus (first | exact wN | (apply SYG.yes; (exact wY); ((first | (apply SY.call (cg) Tryz.call23; (exact aD)) | (exact SY.notT (OpD.t rfl)) | (exact SY.lssE hs0 (OpD.t rfl) OpD.i) | (exact SY.build1' (R := Verts) (_gR := inferInstance) (els := [s]) elSi (ElsD.cn (OpD.t rfl) ElsD.nl) rfl rfl (fun _ => shape_K) (Nat.le_of_ble_eq_true rfl)) | (apply SY.call (cS) Tryz.call18; (exact aD)) | (apply SY.call (c1) Tryz.call46; (exact aD)) | (apply SY.call (c2) Tryz.call47; (exact aD)) | (apply SY.call (c3) Tryz.call48; (exact aD)) | (exact SY.fldA strSb (OpD.t rfl) R3_agg rfl rfl) | (exact SY.loadCx' tyC (OpD.t rfl)) | (apply SY.load; exact tySS; exact OpD.t rfl) | (exact SY.add00' (OpD.t rfl) (OpD.t rfl)) | (exact SY.neqF (p := 0) (q := 0) rfl (OpD.t rfl) OpD.i) | (exact SY.neqF (p := 1) (q := 1) rfl (OpD.t rfl) OpD.i) | (exact SY.eqlE hb0 (OpD.t rfl) OpD.i) | ((first | apply SY.move | apply SY.assign | apply SY.lss | apply SY.eql | apply SY.neq | apply SY.not) <;> (exact oD)) | ((first | apply SY.add | apply SY.sub) <;> first | exact oD | omega) | (apply SY.len; (exact oD); (exact nD); (exact uD)) | (apply SY.fldC cpxT; exact OpD.t rfl) | (apply SY.mkC cpxT; exact OpD.t rfl) | (apply SY.pickF; (exact oD); (with_reducible rfl); (exact oD)) | (apply SY.extract; (exact oD); rfl) | fail); all_goals infer_instance)))); dsimp only [setD, z0, z1]) | (apply WC.condF; (exact oD); (with_reducible rfl)) | refine WC.skip ?_ | refine WC.block ?_))
      all_goals try (exfalso; first | contradiction | omega)
      (refine WC.loopU (X := Nat) (fun k => [(75, dI (k : Int)), (2, dA), (12, dA), (13, dA), (14, dA), (15, dA), (16, dA), (76, dA), (77, dA), (78, dA), (79, dA), (80, dA), (81, dA), (82, dA), (83, dA), (84, dA), (85, dA), (86, dA), (87, dA), (88, dA), (89, dA), (90, dA), (91, dA), (92, dA), (93, dA), (94, dA), (95, dA), (96, dA), (97, dA), (98, dA), (99, dA), (100, dA), (101, dA), (102, dA), (103, dA), (104, dA), (105, dA)]) (fun k => []) (fun k => T.length - k) (fun k => k ≤ T.length) 0 ?start ?frame0 ?objs0 ?round)
      case start => exact Nat.zero_le _
      case frame0 => ((try dsimp only [upds, z0, z1]); repeat (first | exact LeF.nil | refine LeF.co (k := ?_)))
      case objs0 => rfl
      case round =>
        rintro k k1
        dsimp only [upds, z0, z1]
        by_cases hk : k < T.length
        · obtain ⟨u, u1, u2⟩ := b6 T[k] (List.getElem_mem hk)
          have cA1 := cA T[k]
          rw [u1] at cA1
          have cB := contains27_p b T[k]
          rw [u2] at cB
          have hlt : decide ((u.length : Int) < (s.length : Int)) = decide (u.length < s.length) := decide_eq_decide.2 (by omega)
          generalize decide (u.length < s.length) = q at *
          ((repeat' (first | (apply WL.opN; exact yF; dsimp only [setD, z0, z1]) | refine WL.nil ?_ | refine WC.seqK fun Kx hK => ?_ | (refine hK _ _ ?_; clear hK) | refine WC.region ?_ | (apply WL.opG; (focus (first | exact wN | (apply SYG.yes; (exact wY); ((first | (apply SY.load; exact tySb; exact OpD.t rfl) | (apply SY.call (cA1) Tryz.call42; (exact aD)) | (apply SY.call (cB) Tryz.call27; (exact aD)) | (exact SY.add00' (OpD.t rfl) (OpD.t rfl)) | (exact SY.neqF (p := 0) (q := 0) rfl (OpD.t rfl) OpD.i) | (exact SY.lssE hlt (OpD.t rfl) (OpD.t rfl)) | (exact SY.neqB0 (OpD.t rfl) (OpD.t rfl)) | ((first | apply SY.move | apply SY.assign | apply SY.lss | apply SY.eql | apply SY.neq | apply SY.not) <;> (exact oD)) | ((first | apply SY.add | apply SY.sub) <;> first | exact oD | omega) | (apply SY.len; (exact oD); (exact nD); (exact uD)) | (apply SY.ix; (exact eD); (exact oD); (exact oD); exact kD) | (apply SY.pickF; (exact oD); (with_reducible rfl); (exact oD)) | (apply SY.extract; (exact oD); rfl) | fail); all_goals infer_instance)))); dsimp only [setD, z0, z1]) | (apply WC.condF; (exact oD); (with_reducible rfl)) | (apply WC.condD; (exact oD); all_goals (intro h; try exact xD)) | refine WC.skip ?_ | refine WC.block ?_ | refine ThenD.n ?_)); all_goals (first | ((repeat clear hK); (repeat clear Kx))))
          all_goals try (exfalso; first | contradiction | omega)
          (refine ⟨k + 1, ?_, by first | omega | (simp only; omega), rfl, ?_⟩; rotate_left; ((try dsimp only [upds, z0, z1]); repeat (first | exact LeF.nil | refine LeF.co (k := ?_))); (try dsimp only))
          omega
        · ((repeat' (first | (apply WL.opN; exact yF; dsimp only [setD, z0, z1]) | refine WL.nil ?_ | refine WC.seqK fun Kx hK => ?_ | (refine hK _ _ ?_; clear hK) | (refine Kont.skip ?_; clear hK) | refine WC.region ?_ | (apply WL.opG; (focus (first | exact wN | (apply SYG.yes; (exact wY); ((first | (apply SY.call (ca) Tryz.call13; (exact aD)) | ((first | apply SY.move | apply SY.assign | apply SY.lss | apply SY.eql | apply SY.neq | apply SY.not) <;> (exact oD)) | fail); all_goals infer_instance)))); dsimp only [setD, z0, z1]) | (apply WC.condD; (exact oD); all_goals (intro h; try exact xD)) | refine WC.ret ?_ | refine WC.exit ?_)); all_goals (first | ((repeat clear hK); (repeat clear Kx))))
          all_goals try (exfalso; first | contradiction | omega)
          all_goals (refine ⟨trivial, _, rfl, ?_⟩; exact fD)
    · have hs0 : decide ((s.length : Int) < 2) = true := decide_eq_true (by omega)
      (refine Fn.intro1 Tryz.func8 rfl rfl ?_; simp only [Tryz.ntmps8, List.length_cons, List.length_nil, Nat.reduceAdd, Nat.reduceSub, List.replicate_succ, List.replicate_zero, List.cons_append, List.nil_append])
      ((repeat' (first | (apply WL.opN; exact yF; dsimp only [setD, z0, z1]) | refine WL.nil ?_ | refine WC.seqK fun Kx hK => ?_ | (refine hK _ _ ?_; clear hK) | refine WC.region ?_ | (apply WL.opG; (focus (first | exact wN | (apply SYG.yes; (exact wY); ((first | (apply SY.call (cg) Tryz.call23; (exact aD)) | (exact SY.notT (OpD.t rfl)) | (exact SY.lssE hs0 (OpD.t rfl) OpD.i) | (apply SY.call (ca) Tryz.call13; (exact aD)) | ((first | apply SY.move | apply SY.assign | apply SY.lss | apply SY.eql | apply SY.neq | apply SY.not) <;> (exact oD)) | (apply SY.len; (exact oD); (exact nD); (exact uD)) | (apply SY.pickF; (exact oD); (with_reducible rfl); (exact oD)) | fail); all_goals infer_instance)))); dsimp only [setD, z0, z1]) | (apply WC.condT; (exact oD); (with_reducible rfl)) | refine WC.ret ?_ | refine ThenD.r ?_)); all_goals (first | ((repeat clear hK); (repeat clear Kx))))
      all_goals try (exfalso; first | contradiction | omega)
      all_goals (refine ⟨trivial, _, rfl, ?_⟩; exact fD)
  · rw [show gd29 s = false from decide_eq_false hg] at cg
    (refine Fn.intro1 Tryz.func8 rfl rfl ?_; simp only [Tryz.ntmps8, List.length_cons, List.length_nil, Nat.reduceAdd, Nat.reduceSub, List.replicate_succ, List.replicate_zero, List.cons_append, List.nil_append])
    ((repeat' (first | (apply WL.opN; exact yF; dsimp only [setD, z0, z1]) | refine WL.nil ?_ | refine WC.seqK fun Kx hK => ?_ | (refine hK _ _ ?_; clear hK) | refine WC.region ?_ | (apply WL.opG; (focus (first | exact wN | (apply SYG.yes; (exact wY); ((first | (apply SY.call (cg) Tryz.call23; (exact aD)) | (apply SY.call (ca) Tryz.call13; (exact aD)) | ((first | apply SY.move | apply SY.assign | apply SY.lss | apply SY.eql | apply SY.neq | apply SY.not) <;> (exact oD)) | (apply SY.pickT; (exact oD); (with_reducible rfl); (exact oD)) | fail); all_goals infer_instance)))); dsimp only [setD, z0, z1]) | ((first | refine WL.caseP rfl rfl rfl (fun h => ?_) (fun h => ?_) | refine WL.caseN rfl rfl rfl (fun h => ?_) (fun h => ?_) | refine WL.caseB rfl rfl rfl (fun h => ?_) (fun h => ?_)) <;> (first | (exfalso; first | omega | contradiction) | (dsimp only [z0, z1]))) | (apply WC.condT; (exact oD); (with_reducible rfl)) | refine WC.ret ?_ | refine ThenD.r ?_)); all_goals (first | ((repeat clear hK); (repeat clear Kx))))
    all_goals try (exfalso; first | contradiction | omega)
    all_goals (refine ⟨trivial, _, rfl, ?_⟩; exact fD)
end Go.Proofs.YtgppfikidagfpaaGreatDoor
namespace Go.Proofs.YtgppfikidagfpaaGreatDoor
open Go.ChangeShapes Go.WideShapes Go.ChangeAt Go.RowKit
set_option maxRecDepth 100000

theorem own : ownKnob Tryz.prog.godebug = none := by kernel_rfl
theorem laidOut : laidOutB Tryz.prog = true := by kernel_rfl
theorem cellsV : Tryz.prog.cellsOf 52 = 2 := by kernel_rfl
theorem cellsI : Tryz.prog.cellsOf 3 = 1 := by kernel_rfl

section
variable {H : Type} {enc : TypeId × Value → H}
theorem open_V {w : World} {fuel : Nat} {v : Value} {x : DataW H × List MemPlace} (h : DataW.trod enc Tryz.prog w 0 (fun _ => true) true fuel 22 [v] = some x) :
    ∃ xs, Verts anyB w v xs := by
  rcases Deep.open_slice_pairs Tryz.underlying22 Tryz.underlying52 cellsV rfl rfl cellsI cellsI h with ⟨hc, _⟩ | ⟨a, len, cap, m, n, V0, V1, D0, D1, P0, P1, hc, _, hl, hm, hmm, _, hx⟩
  · obtain rfl : v = .slice none 0 0 := by simpa using hc
    exact ⟨[], ArrK.nil' (by decide)⟩
  · obtain rfl : v = .slice (some a) len cap := by simpa using hc
    simp only [if_true] at hmm
    subst hmm
    have hz : ∀ i, ∃ p : Int × Int, i < m → V0 i = .int .i64 p.1 ∧ V1 i = .int .i64 p.2 := fun i => by
      by_cases hi : i < m
      · obtain ⟨_, _, h2, h3⟩ := hx i hi
        obtain ⟨p, hp, _⟩ := DataW.trod_int Tryz.underlying3 h2
        obtain ⟨q, hq, _⟩ := DataW.trod_int Tryz.underlying3 h3
        exact ⟨(p, q), fun _ => ⟨by simpa using hp, by simpa using hq⟩⟩
      · exact ⟨(0, 0), fun h => absurd h hi⟩
    obtain ⟨z, hz⟩ := Classical.axiomOfChoice hz
    have hlen : ((List.range len).map z).length = len := by simp
    refine ⟨(List.range len).map z, some a, m, by rw [hlen], by rw [hlen]; exact hl, hm, by decide, fun k hk => ?_⟩
    rw [hlen] at hk
    obtain ⟨h0, h1, _⟩ := hx k (by omega)
    have hs := World.cell?_spot (hx 0 (by omega)).1
    obtain ⟨b, off, sp⟩ := a
    obtain rfl : sp = none := by simpa [Addr.add] using hs
    obtain ⟨e0, e1⟩ := hz k (by omega)
    refine ⟨[.int .i64 (z k).1, .int .i64 (z k).2], b, off, by simp [RV], rfl, by simp [Value.oneCell'], rfl, trivial, fun j c hc => ?_⟩
    rw [Addr.add_lit] at h0 h1
    match j, hc with
    | 0, hc => cases hc; rw [Nat.add_zero, ← e0]; exact h0
    | 1, hc => cases hc; rw [← e1, Nat.add_assoc]; exact h1
theorem open_V' {w : World} {r : Reach} {b0 : Nat} {v : Value} {d : DataW H} {ps : List MemPlace} (hv : Value.okWide Tryz.prog w r b0 22 v) (h : DataW.Trod enc Tryz.prog w 0 (fun _ => true) true 22 v d ps) : ∃ xs, (dS Verts xs).rd anyB w v := by
  obtain ⟨fuel, h⟩ := h
  obtain ⟨a, len, cap, rfl⟩ := okWide_slice Tryz.underlying22 hv
  exact open_V h
end

section
variable {H : Type} {enc : TypeId × Value → H}

theorem args_kept {W W' : World} (hE : Ext W W') : ∀ {ts : List TypeId} {vs : List Value} {ds : List (DataW H)} {ps : List MemPlace}, (∀ t ∈ ts, Tryz.prog.readableRec t = true ∧ t < Tryz.prog.types.size) → (∀ p ∈ ps, p.block < W.heap.size) →
    DataW.TrodAll enc Tryz.prog W 0 (fun _ => true) true ts vs ds ps → DataW.TrodAll enc Tryz.prog W' 0 (fun b => decide (b < W.heap.size)) true ts vs ds ps
  | [], _, _, _, _, _, h => by
    obtain ⟨rfl, rfl, rfl⟩ := trodAll_nil h
    exact trodAll_mk0
  | t :: ts, _, _, _, ht, hlt, h => by
    obtain ⟨v, vs1, d, ds1, a, b, rfl, rfl, rfl, h1, h2⟩ := trodAll_cons h
    exact trodAll_cons_mk (Below.trod laidOut (ht t (by simp)).1 (ht t (by simp)).2 h1 hE (fun x hx => hlt x (by simp [hx]))) (args_kept hE (fun t' h' => ht t' (by simp [h'])) (fun p hp => hlt p (by simp [hp])) h2)

theorem post_law {f : Func} {s : ChangeSpec} {W W' : World} {args : Array Value} {ds gs : List (DataW H)} {before : List MemPlace} (hW : DataW.Whole enc Tryz.prog f.params.toList s.vars false W args.toList ds gs before) (hvars : s.vars = [])
    (hr : f.resultTypes = #[4]) (hs : s.fn H ds = { results := [.lit (.bool true)], args := ds }) (ht : ∀ t ∈ f.params.toList, Tryz.prog.readableRec t = true ∧ t < Tryz.prog.types.size) (hE : Ext W W') :
    s.post enc Tryz.prog f false true false false W args (.bool true) W' := by
  have hlt := hW.lt
  have hW' := hW
  obtain ⟨p, q, hA, hV, rfl, hfz, hnd⟩ := hW
  rw [hvars] at hV
  obtain ⟨rfl, rfl⟩ := trodVars_none hV
  refine ⟨ds, [], p ++ [], [], p, [], hW', ?_, ?_, ?_, hE.frame _, fun h => by cases h⟩
  · rw [hr, List.append_nil, hs]
    exact trodAll_mk1 (shut_bool Tryz.underlying4 true)
  · rw [List.append_nil, hs]
    exact args_kept hE ht (fun x hx => hlt x (by simp [hx])) hA
  · rw [hvars, List.append_nil, hs]
    rfl
theorem fn_law {f : FuncId} {ds : List Dat} (hF : Fn Tryz.prog f ds (dB true)) {W : World} {vs : List Value} (hl : vs.length = ds.length) (h : ∀ (i : Nat) (d : Dat), ds[i]? = some d → d.rd anyB W (vs.getD i undef)) :
    Calls Tryz.prog f vs.toArray W fun e W' => e = .returned (.bool true) ∧ Ext W W' :=
  (hF.out anyB W vs hl h).mono fun _ _ ⟨_, h1, h2, h3⟩ => by cases (h3 : _ = _); exact ⟨h1, h2⟩
end
end Go.Proofs.YtgppfikidagfpaaGreatDoor
