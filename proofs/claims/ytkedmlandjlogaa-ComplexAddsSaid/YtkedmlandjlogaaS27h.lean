/-
  The plain laws of well-formed complexes: a complex is that of its simplices, their numbers give the characteristic; the dimensions of the skeletons.
-/
import Derived.Test.YtkedmlandjlogaaS27g
namespace Go.Proofs.Ytkedmlandjlogaa
theorem allC_self {l : Cx} {x : List Vx} (hx : x ∈ l) : x ∈ allC l x.length := allC_mem.2 ⟨x, hx, (subsV_mem _ _ _).2 ⟨List.Sublist.refl _, rfl⟩⟩
theorem Gd.self {l : Cx} (h : Gd l) {x : List Vx} (hx : x ∈ l) : x ∈ upC l 5 := by
  have := chk_len (h.chk x hx)
  exact upC_mem.2 ⟨x.length, by omega, h.five x hx, allC_self hx⟩
theorem up_max {l : Cx} (h : Gd l) : maxC (upC l 5) = l := by
  refine ascL_ext (maxC_asc _) h.good.2.1 fun x => ?_
  rw [maxC_mem]
  constructor
  · rintro ⟨hx, ht⟩
    obtain ⟨j, h1, h2, h3⟩ := upC_mem.1 hx
    obtain ⟨f, hf, h4⟩ := allC_mem.1 h3
    obtain ⟨h5, h6⟩ := (subsV_mem _ _ _).1 h4
    have hfa := h.good.asc f hf
    have hxa : Asc x := List.Pairwise.sublist h5 hfa
    have h7 := (sub_inside hxa hfa).1 h5
    by_cases he : x = f
    · rw [he]; exact hf
    · have h8 := inside_lt hxa hfa h7 he
      have hc : coveredC (upC l 5) x = true := coveredC_iff.2 ⟨f, h.self hf, h8, h7⟩
      unfold topC at ht
      rw [hc] at ht
      simp at ht
  · intro hx
    refine ⟨h.self hx, ?_⟩
    unfold topC
    rw [Bool.and_eq_true]
    refine ⟨decide_eq_true (chk_len (h.chk x hx)).1, ?_⟩
    cases hc : coveredC (upC l 5) x with
    | false => rfl
    | true =>
      obtain ⟨y, hy, h1, h2⟩ := coveredC_iff.1 hc
      obtain ⟨f, hf, h3⟩ := hasC_iff.1 (h.face hy).2
      obtain ⟨_, _, _, hya⟩ := chkV_zero.1 (h.face hy).1
      have h4 := inside_le hya (h.good.asc f hf) h3
      have : coveredC l x = true := coveredC_iff.2 ⟨f, hf, by omega, inside_trans h2 h3⟩
      rw [h.good.2.2.2 x hx] at this
      cases this
theorem of_is {l : Cx} (h : Gd l) : ofP (upC l 5) = (l, 0) := by
  have h1 := h.up 5
  have h2 : errC (upC l 5) = 0 := errC_of fun s hs => (h.face hs).1
  unfold ofP
  rw [if_neg (by omega), h2, if_neg (by omega), up_max h]
/-! skeletons -/
theorem Gd.most {l : Cx} (h : Gd l) : 0 ≤ mostC l ∧ mostC l ≤ 5 ∧ (mostC l = 0 → l = []) := by
  obtain ⟨h1, h2⟩ := most_max l
  refine ⟨?_, ?_, fun h0 => ?_⟩
  · rcases h2 with h2 | ⟨s, _, h2⟩ <;> omega
  · rcases h2 with h2 | ⟨s, hs, h2⟩
    · omega
    · have := h.five s hs; omega
  · apply List.eq_nil_iff_forall_not_mem.2
    intro s hs
    have := h1 s hs
    have := chk_len (h.chk s hs)
    omega
theorem skelL_mem {l : Cx} {k : Nat} {x : List Vx} : x ∈ skelL l k ↔ x ∈ allC l k ∨ (x ∈ l ∧ x.length < k) := by
  unfold skelL
  rw [List.mem_append, List.mem_filter, decide_eq_true_iff]
theorem skel_top {l : Cx} (h : Gd l) : skelP l (dimC l + 1) = (l, 0) := by
  obtain ⟨h1, h2, h3⟩ := h.most
  have hd := most_dim l
  have he : dimC l + 1 = mostC l := by omega
  rw [he]
  unfold skelP
  rw [h.zero, if_neg (by omega), if_neg (by omega)]
  by_cases h0 : mostC l = 0
  · rw [if_pos h0, h3 h0]
  · have ha := h.all (mostC l).toNat
    rw [if_neg h0, if_neg (by omega)]
    have : maxC (skelL l (mostC l).toNat) = maxC l := max_ext fun x _ => by
      rw [skelL_mem]
      constructor
      · rintro (hx | hx)
        · obtain ⟨f, hf, hx⟩ := allC_mem.1 hx
          obtain ⟨h5, h6⟩ := (subsV_mem _ _ _).1 hx
          have := (most_max l).1 f hf
          rw [List.Sublist.eq_of_length_le h5 (by omega)]
          exact hf
        · exact hx.1
      · intro hx
        have := (most_max l).1 x hx
        by_cases hk : x.length = (mostC l).toNat
        · left; rw [← hk]; exact allC_self hx
        · right; exact ⟨hx, by omega⟩
    rw [this, max_good h.good]
theorem skel_dim {l : Cx} (h : Gd l) {k : Nat} (hk : (k : Int) ≤ dimC l) : (skelP l k).2 = 0 ∧ chkC (skelP l k).1 = 0 ∧ dimC (skelP l k).1 = (k : Int) - 1 := by
  obtain ⟨h1, h2, h3⟩ := h.most
  have hd := most_dim l
  have e : skelP l k = if (k : Int) = 0 then ([], 0) else (maxC (skelL l k), 0) := by
    have ha := h.all k
    unfold skelP
    rw [h.zero, if_neg (by omega), if_neg (by omega)]
    by_cases h0 : (k : Int) = 0
    · rw [if_pos h0, if_pos h0]
    · rw [if_neg h0, if_neg h0, Int.toNat_natCast, if_neg (by omega)]
  rw [e]
  by_cases h0 : (k : Int) = 0
  · rw [if_pos h0]
    refine ⟨rfl, by decide, ?_⟩
    rw [h0]; decide
  · rw [if_neg h0]
    have hg : ∀ s ∈ skelL l k, chkV s = 0 := fun s hs => by
      rcases skelL_mem.1 hs with hs | hs
      · obtain ⟨f, hf, hx⟩ := allC_mem.1 hs
        exact (face_good (h.chk f hf) (by omega) hx).1
      · exact h.chk s hs.1
    have hlen : (skelL l k).length ≤ 330 := by
      have ha := h.all k
      have hb := List.length_filter_le (fun s : List Vx => decide (s.length < k)) l
      have hc := h.few
      unfold skelL
      rw [List.length_append]
      omega
    have hm := max_len (skelL l k)
    refine ⟨rfl, goodX_iff.2 (good_max (fun s hs _ => hg s hs) (by omega)), ?_⟩
    have hle : ∀ s ∈ skelL l k, s.length ≤ k := fun s hs => by
      rcases skelL_mem.1 hs with hs | hs
      · obtain ⟨f, hf, hx⟩ := allC_mem.1 hs
        have := ((subsV_mem _ _ _).1 hx).2
        omega
      · omega
    have hd2 := most_dim (maxC (skelL l k))
    obtain ⟨h5, h6⟩ := most_max (maxC (skelL l k))
    have h7 : mostC (maxC (skelL l k)) ≤ k := by
      rcases h6 with h6 | ⟨s, hs, h6⟩
      · omega
      · have := hle s (maxC_mem.1 hs).1; omega
    have h8 : (k : Int) ≤ mostC (maxC (skelL l k)) := by
      rcases (most_max l).2 with h9 | ⟨f, hf, h9⟩
      · omega
      · have hx : f.take k ∈ allC l k := allC_mem.2 ⟨f, hf, (subsV_mem _ _ _).2 ⟨List.take_sublist _ _, by rw [List.length_take]; omega⟩⟩
        have hl : (f.take k).length = k := by rw [List.length_take]; omega
        have := h5 (f.take k) (maxC_mem.2 ⟨skelL_mem.2 (.inl hx), by
          unfold topC
          rw [Bool.and_eq_true]
          refine ⟨decide_eq_true (by omega), ?_⟩
          cases hc : coveredC (skelL l k) (f.take k) with
          | false => rfl
          | true =>
            obtain ⟨y, hy, hy1, _⟩ := coveredC_iff.1 hc
            have := hle y hy
            omega⟩)
        omega
    show dimC (maxC (skelL l k)) = _
    omega
/-! the characteristic -/
def sgnC (s : List Vx) : Int := 2 * ((s.length : Int).tmod 2) - 1
def sumC (l : Cx) : Int := (l.map sgnC).sum
theorem sumC_snoc {l : Cx} {k : Nat} (h : k < l.length) : sumC (l.take (k + 1)) = sumC (l.take k) + sgnC l[k] := by
  unfold sumC; rw [take_snoc' h, List.map_append, List.sum_append]; simp
theorem sum_same {l : Cx} {k : Nat} (h : ∀ s ∈ l, s.length = k) : sumC l = (2 * ((k : Int) % 2) - 1) * l.length := by
  induction l with
  | nil => simp [sumC]
  | cons s l ih =>
    have h1 := ih fun x hx => h x (List.mem_cons_of_mem _ hx)
    have h2 := h s (by simp)
    have h3 : sumC (s :: l) = sgnC s + sumC l := by unfold sumC; simp
    have h4 : sgnC s = 2 * ((k : Int) % 2) - 1 := by unfold sgnC; rw [h2, Int.tmod_eq_emod_of_nonneg (by omega)]
    rw [h3, h1, h4, List.length_cons, Int.natCast_add, Int.mul_add]
    omega
theorem sum_up (l : Cx) : ∀ k, sumC (upC l k) = eulS l k
  | 0 => rfl
  | k + 1 => by
    have h1 := sum_up l k
    have h2 : sumC (allC l (k + 1)) = (2 * (((k + 1 : Nat) : Int) % 2) - 1) * (allC l (k + 1)).length := sum_same fun s hs => by
      obtain ⟨f, _, hx⟩ := allC_mem.1 hs
      exact ((subsV_mem _ _ _).1 hx).2
    have h3 : sumC (upC l (k + 1)) = sumC (upC l k) + sumC (allC l (k + 1)) := by
      show sumC (upC l k ++ allC l (k + 1)) = _
      unfold sumC; rw [List.map_append, List.sum_append]
    rw [h3, h1, h2]
    show _ = if (k + 1) % 2 = 1 then eulS l k + ((allC l (k + 1)).length : Int) else eulS l k - ((allC l (k + 1)).length : Int)
    by_cases h4 : (k + 1) % 2 = 1
    · have : ((k + 1 : Nat) : Int) % 2 = 1 := by omega
      rw [if_pos h4, this]; omega
    · have : ((k + 1 : Nat) : Int) % 2 = 0 := by omega
      rw [if_neg h4, this]; omega
theorem Gd.sum {l : Cx} (h : Gd l) : sumC (upC l 5) = eulS l 8 := by
  rw [sum_up]
  have h6 := h.none (k := 6) (by omega)
  have h7 := h.none (k := 7) (by omega)
  have h8 := h.none (k := 8) (by omega)
  have e : ∀ k, allC l (k + 1) = [] → eulS l (k + 1) = eulS l k := fun k hk => by
    show (if (k + 1) % 2 = 1 then eulS l k + ((allC l (k + 1)).length : Int) else eulS l k - ((allC l (k + 1)).length : Int)) = _
    rw [hk]; simp
  rw [e 7 h8, e 6 h7, e 5 h6]
end Go.Proofs.Ytkedmlandjlogaa
