/- Part 11: walks by contracts, and plain laws. -/
import Derived.Test.YtjmignmnlpamjaaGreatVa10
set_option linter.unusedVariables false
set_option linter.unusedSimpArgs false
set_option linter.unusedSectionVars false
set_option maxRecDepth 100000
set_option maxHeartbeats 4000000
namespace Go.Proofs.YtjmignmnlpamjaaGreat.S43
section
inductive Der (l : List Cl) (a : Int -> Prop) : Int -> Prop
 | base {x : Int} : a x -> Der l a x
 | step {c : Cl} {x : Int} : c ∈ l -> x ∈ c -> (∀ y ∈ c, y ≠ x -> Der l a (-y)) -> Der l a x
def Conf (l : List Cl) (a : Int -> Prop) : Prop := ∃ c ∈ l, ∀ y ∈ c, Der l a (-y)
structure LS where
 seen : Nat -> Bool
 out : List Int
 opn : Nat
def look (s : SS) (t : LS) (l : Int) : LS :=
 if (t.seen l.natAbs || decide (s.lev l.natAbs = 0)) = true then t
 else if s.lev l.natAbs = s.begins.length then { seen := up t.seen l.natAbs true, out := t.out, opn := t.opn + 1 }
 else { seen := up t.seen l.natAbs true, out := t.out ++ [l], opn := t.opn }
def resolve (s : SS) : Nat -> LS -> List Int
 | 0, _ => []
 | p + 1, t =>
  if t.seen (s.trail.getD p 0).natAbs = false then resolve s p t
  else if t.opn = 1 then -(s.trail.getD p 0) :: t.out
  else resolve s p (((s.list.getD ((s.rea (s.trail.getD p 0).natAbs).getD 0) []).filter fun x => decide (x ≠ s.trail.getD p 0)).foldl (look s) { seen := t.seen, out := t.out, opn := t.opn - 1 })
def cnt (s : SS) (p : Nat) (seen : Nat -> Bool) : Nat := ((s.trail.take p).filter fun x => decide (s.lev x.natAbs = s.begins.length) && seen x.natAbs).length
structure RInv (s : SS) (p : Nat) (t : LS) : Prop where
 out : ∀ y ∈ t.out, -y ∈ s.trail /\ 0 < s.lev y.natAbs /\ s.lev y.natAbs < s.begins.length /\ t.seen y.natAbs = true
 dis : t.out.Pairwise fun x y => x.natAbs ≠ y.natAbs
 opn : t.opn = cnt s p t.seen
 low : ∀ v, t.seen v = true -> s.lev v < s.begins.length -> ∃ y ∈ t.out, y.natAbs = v
theorem ZN2 {P : Int -> Bool} {seen : Nat -> Bool} {v : Nat} (hs : seen v = false) : ∀ {t : List Int}, t.Pairwise (fun x y => x.natAbs ≠ y.natAbs) -> ∀ x ∈ t, x.natAbs = v -> P x = true ->
  (t.filter fun z => P z && up seen v true z.natAbs).length = (t.filter fun z => P z && seen z.natAbs).length + 1 := by
 intro t
 induction t with
 | nil => intro _ x hx; cases hx
 | cons z t ih =>
  intro hd x hx hxv hP
  obtain ⟨h1, h2⟩ := List.pairwise_cons.1 hd
  by_cases hz : z.natAbs = v
  ·have hzx : z = x := by
    rcases List.mem_cons.1 hx with q | q
    ·exact q.symm
    ·exact absurd (hz.trans hxv.symm) (h1 x q)
   subst hzx
   have e : (t.filter fun z => P z && up seen v true z.natAbs) = t.filter fun z => P z && seen z.natAbs := List.filter_congr fun y hy => by
    rw [up_ne fun q => h1 y hy (hz.trans q.symm)]
   rw [List.filter_cons_of_pos (by rw [hP, hz, up_eq]; rfl), List.filter_cons_of_neg (by rw [hz, hs]; simp), e, List.length_cons]
  ·have hx' : x ∈ t := by
    rcases List.mem_cons.1 hx with q | q
    ·exact absurd (q ▸ hxv) hz
    ·exact q
   have := ih h2 x hx' hxv hP
   have e : (P z && up seen v true z.natAbs) = (P z && seen z.natAbs) := by rw [up_ne hz]
   rw [List.filter_cons, List.filter_cons, e]
   split
   ·rw [List.length_cons, List.length_cons, this]
   ·exact this
section
variable {V : Nat} {s : SS} {W : Int -> List Nat} {E : Nat -> Prop}
theorem ZNW (h : Inv V s W E) {p : Nat} {t : LS} (r : RInv s p t) {y : Int} (hy : -y ∈ s.trail.take p) :
  RInv s p (look s t y) /\ t.opn ≤ (look s t y).opn /\ (∀ v, t.seen v = true -> (look s t y).seen v = true) /\ (∀ z ∈ t.out, z ∈ (look s t y).out) /\ (s.lev y.natAbs = 0 \/ (look s t y).seen y.natAbs = true) := by
 have hyt : -y ∈ s.trail := List.mem_of_mem_take hy
 have hle := h.lev_le hyt
 rw [Int.natAbs_neg] at hle
 unfold look
 by_cases h1 : (t.seen y.natAbs || decide (s.lev y.natAbs = 0)) = true
 ·rw [if_pos h1]
  refine ⟨r, Nat.le_refl _, fun _ q => q, fun _ q => q, ?_⟩
  rcases Bool.or_eq_true_iff.1 h1 with q | q
  ·exact .inr q
  ·exact .inl (of_decide_eq_true q)
 ·rw [if_neg h1]
  have hs : t.seen y.natAbs = false := by
   cases hq : t.seen y.natAbs
   ·rfl
   ·rw [hq] at h1; exact absurd rfl h1
  have h0 : s.lev y.natAbs ≠ 0 := fun q => h1 (by rw [hs, decide_eq_true q]; rfl)
  have hup : ∀ v, t.seen v = true -> up t.seen y.natAbs true v = true := fun v q => by
   by_cases e : v = y.natAbs
   ·rw [e, up_eq]
   ·rw [up_ne e]; exact q
  by_cases hL : s.lev y.natAbs = s.begins.length
  ·rw [if_pos hL]
   refine ⟨⟨fun z hz => ?_, r.dis, ?_, fun v hv hv2 => ?_⟩, Nat.le_succ _, hup, fun _ q => q, .inr (up_eq _ _ _)⟩
   ·obtain ⟨q1, q2, q3, q4⟩ := r.out z hz
    exact ⟨q1, q2, q3, hup _ q4⟩
   ·show t.opn + 1 = cnt s p (up t.seen y.natAbs true)
    have := ZN2 (P := fun x => decide (s.lev x.natAbs = s.begins.length)) hs (List.Pairwise.sublist (List.take_sublist p _) h.tdis) (-y) hy (Int.natAbs_neg y) (by rw [Int.natAbs_neg]; exact decide_eq_true hL)
    unfold cnt
    rw [this, r.opn]
    rfl
   ·have hne : v ≠ y.natAbs := fun q => by rw [q] at hv2; omega
    exact r.low v ((up_ne hne).symm.trans hv) hv2
  ·rw [if_neg hL]
   refine ⟨⟨fun z hz => ?_, ?_, ?_, fun v hv hv2 => ?_⟩, Nat.le_refl _, hup, fun z q => List.mem_append_left _ q, .inr (up_eq _ _ _)⟩
   ·rcases List.mem_append.1 hz with hz | hz
    ·obtain ⟨q1, q2, q3, q4⟩ := r.out z hz
     exact ⟨q1, q2, q3, hup _ q4⟩
    ·rw [List.mem_singleton.1 hz]
     exact ⟨hyt, by omega, by omega, up_eq _ _ _⟩
   ·refine List.pairwise_append.2 ⟨r.dis, by simp, fun z hz w hw q => ?_⟩
    rw [List.mem_singleton.1 hw] at q
    have := (r.out z hz).2.2.2
    rw [q, hs] at this
    cases this
   ·show t.opn = cnt s p (up t.seen y.natAbs true)
    rw [r.opn]
    unfold cnt
    congr 1
    refine List.filter_congr fun z _ => ?_
    by_cases e : z.natAbs = y.natAbs
    ·rw [e, decide_eq_false hL, Bool.false_and, Bool.false_and]
    ·rw [up_ne e]
   ·by_cases e : v = y.natAbs
    ·exact ⟨y, List.mem_append_right _ (by simp), e.symm⟩
    ·obtain ⟨z, z1, z2⟩ := r.low v ((up_ne e).symm.trans hv) hv2
     exact ⟨z, List.mem_append_left _ z1, z2⟩
theorem looks_ok (h : Inv V s W E) {p : Nat} : ∀ (c : Cl) (t : LS), RInv s p t -> (∀ y ∈ c, -y ∈ s.trail.take p) ->
  RInv s p (c.foldl (look s) t) /\ t.opn ≤ (c.foldl (look s) t).opn /\ (∀ v, t.seen v = true -> (c.foldl (look s) t).seen v = true) /\ (∀ z ∈ t.out, z ∈ (c.foldl (look s) t).out) /\ ∀ y ∈ c, s.lev y.natAbs = 0 \/ (c.foldl (look s) t).seen y.natAbs = true
 | [], t, r, _ => ⟨r, Nat.le_refl _, fun _ q => q, fun _ q => q, fun _ q => by cases q⟩
 | y :: c, t, r, hy => by
  obtain ⟨a1, a2, a3, a4, a5⟩ := ZNW h r (hy y (by simp))
  obtain ⟨b1, b2, b3, b4, b5⟩ := looks_ok h c (look s t y) a1 fun z hz => hy z (by simp [hz])
  rw [List.foldl_cons]
  refine ⟨b1, Nat.le_trans a2 b2, fun v q => b3 v (a3 v q), fun z q => b4 z (a4 z q), fun z hz => ?_⟩
  rcases List.mem_cons.1 hz with rfl | hz
  ·exact a5.imp id fun q => b3 _ q
  ·exact b5 z hz
theorem ZIJ (h : Inv V s W E) (a : Int -> Prop) : ∀ (n p : Nat) (x : Int), p < n -> s.trail[p]? = some x -> s.lev x.natAbs = 0 -> Der s.list a x
 | 0, _, _, hp, _, _ => absurd hp (Nat.not_lt_zero _)
 | n + 1, p, x, hp, e, h0 => by
  have hl := h.lev p x e
  rw [h0] at hl
  cases hr : s.rea x.natAbs with
  | none =>
   have := ZL2 hl.symm p (h.dec p x e hr)
   omega
  | some r =>
   obtain ⟨c, c1, c2, c3⟩ := h.rea p x e r hr
   refine Der.step (List.mem_of_getElem? c1) c2 fun y hy hne => ?_
   obtain ⟨q, q1, q2⟩ := Z2.1 (c3 y hy hne)
   refine ZIJ h a n q (-y) (by omega) q2 ?_
   rw [h.lev q _ q2]
   have := ZBe (bs := s.begins) (Nat.le_of_lt q1)
   omega
theorem ZDR (h : Inv V s W E) (a : Int -> Prop) {x : Int} (hx : x ∈ s.trail) (h0 : s.lev x.natAbs = 0) : Der s.list a x := by
 obtain ⟨p, hp⟩ := ZBy.1 hx
 exact ZIJ h a (p + 1) p x (Nat.lt_succ_self p) hp h0
def Left (s : SS) (p : Nat) (t : LS) : Prop := ∀ a : Int -> Prop, (∀ y ∈ t.out, Der s.list a (-y)) -> (∀ q x, q < p -> s.trail[q]? = some x -> s.lev x.natAbs = s.begins.length -> t.seen x.natAbs = true -> Der s.list a x) -> Conf s.list a
theorem ZFS (h : Inv V s W E) {p : Nat} {t : LS} (r : RInv s p t) {a : Int -> Prop} (h1 : ∀ y ∈ t.out, Der s.list a (-y)) (h2 : ∀ q x, q < p -> s.trail[q]? = some x -> s.lev x.natAbs = s.begins.length -> t.seen x.natAbs = true -> Der s.list a x)
  {y : Int} (hy : -y ∈ s.trail.take p) (hl : s.lev y.natAbs = 0 \/ t.seen y.natAbs = true) : Der s.list a (-y) := by
 have hyt := List.mem_of_mem_take hy
 rcases hl with q | q
 ·exact ZDR h a hyt (by rw [Int.natAbs_neg]; exact q)
 ·have hle := h.lev_le hyt
  rw [Int.natAbs_neg] at hle
  by_cases hL : s.lev y.natAbs = s.begins.length
  ·obtain ⟨i, i1, i2⟩ := Z2.1 hy
   exact h2 i (-y) i1 i2 (by rw [Int.natAbs_neg]; exact hL) (by rw [Int.natAbs_neg]; exact q)
  ·obtain ⟨z, z1, z2⟩ := r.low _ q (by omega)
   have hz := (r.out z z1).1
   have : -z = -y := ZKD h.tdis hz hyt (by rw [Int.natAbs_neg, Int.natAbs_neg]; exact z2)
   rw [<- this]
   exact h1 z z1
theorem ZDr (h : Inv V s W E) : ∀ (p : Nat) (t : LS), p ≤ s.trail.length -> RInv s p t -> 1 ≤ t.opn -> Left s p t ->
  ∃ (x : Int) (out : List Int), resolve s p t = -x :: out /\ x ∈ s.trail /\ s.lev x.natAbs = s.begins.length /\ (∀ y ∈ out, -y ∈ s.trail /\ 0 < s.lev y.natAbs /\ s.lev y.natAbs < s.begins.length) /\ (-x :: out).Pairwise (fun x y => x.natAbs ≠ y.natAbs) /\
   Conf s.list fun z => ∃ y ∈ -x :: out, z = -y
 | 0, t, _, r, h1, _ => by
  have := r.opn
  unfold cnt at this
  simp at this
  omega
 | p + 1, t, hp, r, h1, hL => by
  have hx : s.trail[p]? = some (s.trail.getD p 0) := by
   rw [List.getD_eq_getElem?_getD, List.getElem?_eq_getElem (by omega), Option.getD_some]
  have hu : resolve s (p + 1) t = if t.seen (s.trail.getD p 0).natAbs = false then resolve s p t
    else if t.opn = 1 then -(s.trail.getD p 0) :: t.out
    else resolve s p (((s.list.getD ((s.rea (s.trail.getD p 0).natAbs).getD 0) []).filter fun x => decide (x ≠ s.trail.getD p 0)).foldl (look s) { seen := t.seen, out := t.out, opn := t.opn - 1 }) := rfl
  rw [hu]
  generalize s.trail.getD p 0 = x at *
  have htk : s.trail.take (p + 1) = s.trail.take p ++ [x] := by
   obtain ⟨g1, g2⟩ := List.getElem?_eq_some_iff.1 hx
   rw [List.take_succ_eq_append_getElem g1, g2]
  have hc : cnt s (p + 1) t.seen = cnt s p t.seen + (if (decide (s.lev x.natAbs = s.begins.length) && t.seen x.natAbs) = true then 1 else 0) := by
   unfold cnt
   rw [htk, List.filter_append, List.length_append]
   congr 1
   rw [List.filter_cons]
   split <;> rfl
  have hxm : x ∈ s.trail := List.mem_of_getElem? hx
  by_cases hs : t.seen x.natAbs = false
  ·rw [if_pos hs]
   rw [hs, Bool.and_false, if_neg (by decide)] at hc
   refine ZDr h p t (by omega) ⟨r.out, r.dis, by rw [r.opn, hc]; rfl, r.low⟩ h1 fun a g1 g2 => hL a g1 fun q z hq ez ezl ezs => ?_
   by_cases hqp : q = p
   ·subst hqp
    rw [hx] at ez
    cases ez
    rw [hs] at ezs
    cases ezs
   ·exact g2 q z (by omega) ez ezl ezs
  ·rw [if_neg hs]
   have hs' : t.seen x.natAbs = true := by
    cases hq : t.seen x.natAbs
    ·exact absurd hq hs
    ·rfl
   -- the literal is of the last level
   have hlx : s.lev x.natAbs = s.begins.length := by
    by_cases hq : s.lev x.natAbs = s.begins.length
    ·exact hq
    ·rw [decide_eq_false hq, Bool.false_and, if_neg (by decide)] at hc
     have h2 : 0 < cnt s p t.seen := by have := r.opn; omega
     unfold cnt at h2
     obtain ⟨z, hz⟩ := List.exists_mem_of_length_pos h2
     obtain ⟨z1, z2⟩ := List.mem_filter.1 hz
     obtain ⟨q, q1, q2⟩ := Z2.1 z1
     have g1 := h.lev q z q2
     have g2 := h.lev p x hx
     have g3 := ZBe (bs := s.begins) (Nat.le_of_lt q1)
     have g4 := of_decide_eq_true (Bool.and_eq_true_iff.1 z2).1
     have g5 := h.lev_le hxm
     omega
   rw [hs', decide_eq_true hlx, if_pos (by decide)] at hc
   by_cases ho : t.opn = 1
   ·rw [if_pos ho]
    refine ⟨x, t.out, rfl, hxm, hlx, fun y hy => ⟨(r.out y hy).1, (r.out y hy).2.1, (r.out y hy).2.2.1⟩, List.pairwise_cons.2 ⟨fun y hy q => ?_, r.dis⟩, ?_⟩
    ·rw [Int.natAbs_neg] at q
     have := (r.out y hy).2.2.1
     rw [<- q, hlx] at this
     omega
    ·refine hL _ (fun y hy => Der.base ⟨y, by simp [hy], rfl⟩) fun q z hq ez ezl ezs => ?_
     by_cases hqp : q = p
     ·subst hqp
      rw [hx] at ez
      cases ez
      exact Der.base ⟨-x, by simp, by rw [Int.neg_neg]⟩
     ·have h2 : cnt s p t.seen = 0 := by have := r.opn; omega
      unfold cnt at h2
      have h3 := List.filter_eq_nil_iff.1 (List.length_eq_zero_iff.1 h2) z (Z2.2 ⟨q, by omega, ez⟩)
      exact absurd (by rw [decide_eq_true ezl, ezs]; rfl) h3
   ·rw [if_neg ho]
    cases hr : s.rea x.natAbs with
    | none =>
     exfalso
     have hpb := h.dec p x hx hr
     have h2 : 0 < cnt s p t.seen := by have := r.opn; omega
     unfold cnt at h2
     obtain ⟨z, hz⟩ := List.exists_mem_of_length_pos h2
     obtain ⟨z1, z2⟩ := List.mem_filter.1 hz
     obtain ⟨q, q1, q2⟩ := Z2.1 z1
     have g1 := h.lev q z q2
     have g2 := h.lev p x hx
     have g4 := of_decide_eq_true (Bool.and_eq_true_iff.1 z2).1
     -- the level begins at p: it does not count before
     have g5 : lvp s.begins q < lvp s.begins p := by
      have : ∀ bs : List Nat, p ∈ bs -> lvp bs q < lvp bs p := by
       intro bs
       induction bs with
       | nil => intro q; cases q
       | cons b bs ih =>
        intro hb
        have e1 : lvp (b :: bs) q = lvp [b] q + lvp bs q := ZBA [b] bs q
        have e2 : lvp (b :: bs) p = lvp [b] p + lvp bs p := ZBA [b] bs p
        have m1 := ZBe (bs := [b]) (Nat.le_of_lt q1)
        have m2 := ZBe (bs := bs) (Nat.le_of_lt q1)
        rcases List.mem_cons.1 hb with q3 | q3
        ·subst q3
         have e3 : lvp [p] q = 0 := ZDW fun b hb => by rw [List.mem_singleton.1 hb]; exact q1
         have e4 : lvp [p] p = 1 := ZCj fun b hb => by rw [List.mem_singleton.1 hb]; exact Nat.le_refl _
         omega
        ·have := ih q3
         omega
      exact this _ hpb
     omega
    | some rr =>
     obtain ⟨c, c1, c2, c3⟩ := h.rea p x hx rr hr
     have hg : s.list.getD ((some rr).getD 0) [] = c := by
      rw [Option.getD_some, List.getD_eq_getElem?_getD, c1, Option.getD_some]
     rw [hg]
     have r0 : RInv s p { seen := t.seen, out := t.out, opn := t.opn - 1 } := ⟨r.out, r.dis, by
      show t.opn - 1 = cnt s p t.seen
      rw [r.opn, hc]
      omega, r.low⟩
     obtain ⟨b1, b2, b3, b4, b5⟩ := looks_ok h (c.filter fun y => decide (y ≠ x)) _ r0 fun y hy => by
      obtain ⟨y1, y2⟩ := List.mem_filter.1 hy
      exact c3 y y1 (of_decide_eq_true y2)
     refine ZDr h p _ (by omega) b1 (Nat.le_trans (by show 1 ≤ t.opn - 1; omega) b2) fun a g1 g2 => hL a (fun y hy => g1 y (b4 y hy)) fun q z hq ez ezl ezs => ?_
     by_cases hqp : q = p
     ·subst hqp
      rw [hx] at ez
      cases ez
      refine Der.step (List.mem_of_getElem? c1) c2 fun y hy hne => ?_
      exact ZFS h b1 g1 g2 (c3 y hy hne) (b5 y (List.mem_filter.2 ⟨hy, decide_eq_true hne⟩))
     ·exact g2 q z (by omega) ez ezl (b3 _ ezs)
end
end
section
def ZAs (s : SS) (st : List Int × Nat) (i : Nat) : List Int × Nat :=
 if 0 < i /\ st.2 < s.lev (st.1.getD i 0).natAbs then ((st.1.set i (st.1.getD 1 0)).set 1 (st.1.getD i 0), s.lev (st.1.getD i 0).natAbs) else st
def ZMO (s : SS) (out : List Int) : List Int × Nat := (List.range out.length).foldl (ZAs s) (out, 0)
theorem ZK7 {s : SS} {a : Int} : ∀ (n m : Nat) (b : Int) (r : List Int), r.length = m + n -> (∀ j y, j < m -> r[j]? = some y -> s.lev y.natAbs ≤ s.lev b.natAbs) ->
  ∃ b' r', ((List.range' m n).map (· + 2)).foldl (ZAs s) (a :: b :: r, s.lev b.natAbs) = (a :: b' :: r', s.lev b'.natAbs) /\ (b' :: r').Perm (b :: r) /\ ∀ y ∈ b' :: r', s.lev y.natAbs ≤ s.lev b'.natAbs
 | 0, m, b, r, hr, h => ⟨b, r, rfl, List.Perm.refl _, fun y hy => by
  rcases List.mem_cons.1 hy with rfl | hy
  ·exact Nat.le_refl _
  ·obtain ⟨j, hj, rfl⟩ := List.mem_iff_getElem.1 hy
   exact h j _ (by omega) (List.getElem?_eq_getElem hj)⟩
 | n + 1, m, b, r, hr, h => by
  have hm : m < r.length := by omega
  have hg : r.getD m 0 = r[m] := by rw [List.getD_eq_getElem?_getD, List.getElem?_eq_getElem hm, Option.getD_some]
  have hst : ZAs s (a :: b :: r, s.lev b.natAbs) (m + 2) = if s.lev b.natAbs < s.lev r[m].natAbs then (a :: r[m] :: r.set m b, s.lev r[m].natAbs) else (a :: b :: r, s.lev b.natAbs) := by
   have e1 : (a :: b :: r).getD (m + 2) 0 = r[m] := hg
   unfold ZAs
   simp only [e1]
   by_cases hq : s.lev b.natAbs < s.lev r[m].natAbs
   ·rw [if_pos ⟨by omega, hq⟩, if_pos hq]; rfl
   ·rw [if_neg fun q => hq q.2, if_neg hq]
  rw [List.range'_succ, List.map_cons, List.foldl_cons, hst]
  by_cases hq : s.lev b.natAbs < s.lev r[m].natAbs
  ·rw [if_pos hq]
   obtain ⟨b', r', e1, e2, e3⟩ := ZK7 (s := s) (a := a) n (m + 1) r[m] (r.set m b) (by rw [List.length_set]; omega) fun j y hj e => by
    rw [List.getElem?_set] at e
    by_cases hjm : m = j
    ·rw [if_pos hjm, if_pos hm] at e
     cases e
     omega
    ·rw [if_neg hjm] at e
     have := h j y (by omega) e
     omega
   refine ⟨b', r', e1, e2.trans ?_, e3⟩
   have := ZCv hm b
   rwa [hg] at this
  ·rw [if_neg hq]
   exact ZK7 n (m + 1) b r (by omega) fun j y hj e => by
    by_cases hjm : j = m
    ·subst hjm
     rw [List.getElem?_eq_getElem hm] at e
     cases e
     omega
    ·exact h j y (by omega) e
theorem ZON {s : SS} {a b : Int} {r : List Int} (hb : 0 < s.lev b.natAbs) : ∃ b' r', ZMO s (a :: b :: r) = (a :: b' :: r', s.lev b'.natAbs) /\ (b' :: r').Perm (b :: r) /\ ∀ y ∈ b' :: r', s.lev y.natAbs ≤ s.lev b'.natAbs := by
 have e : List.range (a :: b :: r).length = 0 :: 1 :: (List.range' 0 r.length).map (· + 2) := by
  rw [List.length_cons, List.length_cons, List.range_succ_eq_map, List.range_succ_eq_map, List.map_cons, List.map_map, List.range_eq_range']
  rfl
 have h0 : ZAs s (a :: b :: r, 0) 0 = (a :: b :: r, 0) := if_neg fun q => absurd q.1 (Nat.lt_irrefl _)
 have h1 : ZAs s (a :: b :: r, 0) 1 = (a :: b :: r, s.lev b.natAbs) := (if_pos ⟨Nat.one_pos, hb⟩).trans rfl
 unfold ZMO
 rw [e, List.foldl_cons, List.foldl_cons, h0, h1]
 exact ZK7 r.length 0 b r (by omega) fun j y hj _ => absurd hj (Nat.not_lt_zero j)
theorem ZNo {s : SS} {a : Int} : ZMO s [a] = ([a], 0) := by
 unfold ZMO
 show ZAs s ([a], 0) 0 = _
 exact if_neg fun q => absurd q.1 (Nat.lt_irrefl _)
def ZAx (s : SS) (k : Nat) : List Int × Nat := ZMO s (resolve s s.trail.length ((s.list.getD k []).foldl (look s) { seen := fun _ => false, out := [], opn := 0 }))
theorem Conf.mono {l : List Cl} {a a' : Int -> Prop} (h : ∀ x, a x -> a' x) (k : Conf l a) : Conf l a' := by
 obtain ⟨c, hc, h1⟩ := k
 have go : ∀ x, Der l a x -> Der l a' x := fun x hx => by
  induction hx with
  | base q => exact .base (h _ q)
  | step h1 h2 _ ih => exact .step h1 h2 ih
 exact ⟨c, hc, fun y hy => go _ (h1 y hy)⟩
structure Learned (s : SS) (c : List Int) (l : Nat) : Prop where
 ex : ∃ x rest, c = -x :: rest /\ x ∈ s.trail /\ s.lev x.natAbs = s.begins.length /\ (∀ y ∈ rest, -y ∈ s.trail /\ 0 < s.lev y.natAbs /\ s.lev y.natAbs ≤ l) /\ (rest = [] -> l = 0) /\ ∀ b r, rest = b :: r -> s.lev b.natAbs = l
 lt : l < s.begins.length
 dis : c.Pairwise fun x y => x.natAbs ≠ y.natAbs
 conf : Conf s.list fun z => ∃ y ∈ c, z = -y
theorem learn_ok {V : Nat} {s : SS} {k : Nat} (h : CInv V s k) (hb : s.begins ≠ []) : Learned s (ZAx s k).1 (ZAx s k).2 := by
 obtain ⟨E, w, c, hI, h0, hat, hbb, hc, hwc, hf⟩ := h.ex
 have hL : 0 < s.begins.length := List.length_pos_iff.2 hb
 have hg : s.list.getD k [] = c := by rw [List.getD_eq_getElem?_getD, hc, Option.getD_some]
 have hlen : s.trail.take s.trail.length = s.trail := List.take_length ..
 have r0 : RInv s s.trail.length { seen := fun _ => false, out := [], opn := 0 } := ⟨(fun y hy => by cases hy), List.Pairwise.nil, (by
  unfold cnt
  rw [List.filter_eq_nil_iff.2 fun x _ => by simp]
  rfl), fun v hv => by cases hv⟩
 obtain ⟨b1, b2, b3, b4, b5⟩ := looks_ok hI c _ r0 fun y hy => by rw [hlen]; exact hf y hy
 have hwl : s.lev w.natAbs = s.begins.length := by
  have := hI.lev _ _ hat
  rw [Int.natAbs_neg] at this
  rw [this, ZCj fun b hb => by have := hbb b hb; omega]
 have hop : 1 ≤ (c.foldl (look s) { seen := fun _ => false, out := [], opn := 0 }).opn := by
  rw [b1.opn]
  unfold cnt
  rw [hlen]
  refine List.length_pos_of_mem (a := -w) (List.mem_filter.2 ⟨List.mem_of_getElem? hat, ?_⟩)
  rw [Int.natAbs_neg, decide_eq_true hwl, Bool.true_and]
  rcases b5 w hwc with q | q
  ·omega
  ·exact q
 have hLf : Left s s.trail.length (c.foldl (look s) { seen := fun _ => false, out := [], opn := 0 }) := fun a g1 g2 => ⟨c, List.mem_of_getElem? hc, fun y hy => ZFS hI b1 g1 g2 (by rw [hlen]; exact hf y hy) (b5 y hy)⟩
 obtain ⟨x, out, e, x1, x2, x3, x4, x5⟩ := ZDr hI s.trail.length _ (Nat.le_refl _) b1 hop hLf
 unfold ZAx
 rw [hg, e]
 cases out with
 | nil =>
  rw [ZNo]
  exact ⟨⟨x, [], rfl, x1, x2, (fun y hy => by cases hy), (fun _ => rfl), fun b r q => by cases q⟩, hL, by simp, x5⟩
 | cons b r =>
  obtain ⟨b', r', e1, e2, e3⟩ := ZON (s := s) (a := -x) (b := b) (r := r) (x3 b (by simp)).2.1
  rw [e1]
  have hb' := x3 b' (e2.mem_iff.1 (by simp))
  refine ⟨⟨x, b' :: r', rfl, x1, x2, (fun y hy => ?_), (fun q => by cases q), fun b2 r2 q => by cases q; rfl⟩, hb'.2.2, dis_perm (List.Perm.cons _ e2) x4, x5.mono fun z => ?_⟩
  ·obtain ⟨q1, q2, q3⟩ := x3 y (e2.mem_iff.1 hy)
   exact ⟨q1, q2, e3 y hy⟩
  ·rintro ⟨y, hy, rfl⟩
   exact ⟨y, (List.Perm.cons _ e2).mem_iff.2 hy, rfl⟩
def ZA7 (s : SS) (c : Cl) : SS :=
 match c with
 | [] => { s with list := s.list ++ [[]], dead := true }
 | [a] => if s.val (-a) then { s with list := s.list ++ [[a]], dead := true } else if s.val a then { s with list := s.list ++ [[a]] } else Zq { s with list := s.list ++ [[a]] } a (some s.list.length)
 | a :: b :: r => { s with list := s.list ++ [a :: b :: r], watch := up (up s.watch a (s.watch a ++ [s.list.length])) b (up s.watch a (s.watch a ++ [s.list.length]) b ++ [s.list.length]) }
section
variable {V : Nat} {s : SS} {W : Int -> List Nat} {E : Nat -> Prop}
theorem Inv0.app (h : Inv0 V s W) {c : Cl} (hr : ∀ x ∈ c, x ≠ 0 /\ x.natAbs ≤ V) (hd : c.Pairwise fun x y => x.natAbs ≠ y.natAbs) {W' Wt : Int -> List Nat} {d : Bool}
  (w1 : ∀ l j, j ≠ s.list.length -> (j ∈ W' l ↔ j ∈ W l)) (w2 : ∀ l, s.list.length ∈ W' l ↔ ∃ a b r, c = a :: b :: r /\ (a = l \/ b = l)) (w3 : ∀ l, (W' l).Nodup)
  (h1 : s.dead = true -> d = true) (h2 : c = [] -> d = true) (h3 : d = false -> ∀ a, c = [a] -> a ∈ s.trail /\ s.lev a.natAbs = 0) : Inv0 V { s with list := s.list ++ [c], watch := Wt, dead := d } W' := by
 have hat : ∀ (k : Nat) x, (s.list ++ [c])[k]? = some x -> (k < s.list.length /\ s.list[k]? = some x) \/ (k = s.list.length /\ x = c) := fun k x e => by
  by_cases hk : k < s.list.length
  ·rw [List.getElem?_append_left hk] at e
   exact .inl ⟨hk, e⟩
  ·rw [List.getElem?_append_right (by omega)] at e
   have h1 := (List.getElem?_eq_some_iff.1 e).1
   simp only [List.length_singleton] at h1
   have hp0 : k - s.list.length = 0 := by omega
   rw [hp0] at e
   exact .inr ⟨by omega, by simpa using e.symm⟩
 have hup : ∀ (k : Nat) x, s.list[k]? = some x -> (s.list ++ [c])[k]? = some x := fun k x e => by
  rw [List.getElem?_append_left (List.getElem?_eq_some_iff.1 e).1]; exact e
 have hlast : (s.list ++ [c])[s.list.length]? = some c := by
  rw [List.getElem?_append_right (Nat.le_refl _), Nat.sub_self]; rfl
 exact {
  rng := fun x hx => by
   rcases List.mem_append.1 hx with hx | hx
   ·exact h.rng x hx
   ·rw [List.mem_singleton.1 hx]; exact hr
  dis := fun x hx => by
   rcases List.mem_append.1 hx with hx | hx
   ·exact h.dis x hx
   ·rw [List.mem_singleton.1 hx]; exact hd
  trng := h.trng
  tdis := h.tdis
  val := h.val
  bs := h.bs
  bh := h.bh
  hl := h.hl
  lev := h.lev
  un := h.un
  rea := fun p x e r hr => by
   obtain ⟨c', c1, c2, c3⟩ := h.rea p x e r hr
   exact ⟨c', hup _ _ c1, c2, c3⟩
  dec := h.dec
  wok := fun k a b r e => by
   rcases hat k _ e with ⟨q1, q2⟩ | ⟨rfl, rfl⟩
   ·have := h.wok k a b r q2
    exact ⟨(w1 a k (by omega)).2 this.1, (w1 b k (by omega)).2 this.2⟩
   ·exact ⟨(w2 a).2 ⟨a, b, r, rfl, .inl rfl⟩, (w2 b).2 ⟨a, b, r, rfl, .inr rfl⟩⟩
  wmem := fun l k hk => by
   by_cases hkl : k = s.list.length
   ·subst hkl
    obtain ⟨a, b, r, rfl, q⟩ := (w2 l).1 hk
    exact ⟨a, b, r, hlast, q⟩
   ·obtain ⟨a, b, r, q1, q2⟩ := h.wmem l k ((w1 l k hkl).1 hk)
    exact ⟨a, b, r, hup _ _ q1, q2⟩
  wnd := w3
  unit := fun hd a ha => by
   have hd' : d = false := hd
   rcases List.mem_append.1 ha with ha | ha
   ·exact h.unit (by
     cases hq : s.dead
     ·rfl
     ·rw [h1 hq] at hd'; cases hd') a ha
   ·exact h3 hd' a (List.mem_singleton.1 ha).symm
  emp := fun he => by
   rcases List.mem_append.1 he with he | he
   ·exact h1 (h.emp he)
   ·exact h2 (List.mem_singleton.1 he).symm }
theorem ZHQ (h : Inv0 V { s with dead := true } W) (h1 : s.dead = false -> ∀ a, [a] ∈ s.list -> a ∈ s.trail /\ s.lev a.natAbs = 0) (h2 : [] ∈ s.list -> s.dead = true) : Inv0 V s W :=
 ⟨h.rng, h.dis, h.trng, h.tdis, h.val, h.bs, h.bh, h.hl, h.lev, h.un, h.rea, h.dec, h.wok, h.wmem, h.wnd, h1, h2⟩
theorem Inv0.fresh (h : Inv0 V s W) (l : Int) (k : Nat) (hk : s.list.length ≤ k) : k ∉ W l := fun q => by
 obtain ⟨a, b, r, e, _⟩ := h.wmem l k q
 have := (List.getElem?_eq_some_iff.1 e).1
 omega
theorem Inv0.app2 (h : Inv0 V s s.watch) {a b : Int} {r : Cl} (hr : ∀ x ∈ a :: b :: r, x ≠ 0 /\ x.natAbs ≤ V) (hd : (a :: b :: r).Pairwise fun x y => x.natAbs ≠ y.natAbs) : Inv0 V (ZA7 s (a :: b :: r)) (ZA7 s (a :: b :: r)).watch := by
 have hab : b ≠ a := fun q => (List.pairwise_cons.1 hd).1 b (by simp) (by rw [q])
 have hf := fun l => h.fresh l s.list.length (Nat.le_refl _)
 refine h.app hr hd (fun l j hj => ?_) (fun l => ?_) (fun l => ?_) id (fun q => by cases q) (fun _ x q => by cases q)
 ·show j ∈ up (up s.watch a (s.watch a ++ [s.list.length])) b (up s.watch a (s.watch a ++ [s.list.length]) b ++ [s.list.length]) l ↔ _
  rw [up_ne hab]
  by_cases h1 : l = b
  ·subst h1; rw [up_eq]; simp [hj]
  ·rw [up_ne h1]
   by_cases h2 : l = a
   ·subst h2; rw [up_eq]; simp [hj]
   ·rw [up_ne h2]
 ·show s.list.length ∈ up (up s.watch a (s.watch a ++ [s.list.length])) b (up s.watch a (s.watch a ++ [s.list.length]) b ++ [s.list.length]) l ↔ _
  rw [up_ne hab]
  constructor
  ·intro q
   by_cases h1 : l = b
   ·exact ⟨a, b, r, rfl, .inr h1.symm⟩
   ·rw [up_ne h1] at q
    by_cases h2 : l = a
    ·exact ⟨a, b, r, rfl, .inl h2.symm⟩
    ·rw [up_ne h2] at q
     exact absurd q (hf l)
  ·rintro ⟨a', b', r', q, q2⟩
   cases q
   by_cases h1 : l = b
   ·subst h1; rw [up_eq]; simp
   ·rw [up_ne h1]
    have : l = a := by
     rcases q2 with q2 | q2
     ·exact q2.symm
     ·exact absurd q2.symm h1
    subst this
    rw [up_eq]; simp
 ·show (up (up s.watch a (s.watch a ++ [s.list.length])) b (up s.watch a (s.watch a ++ [s.list.length]) b ++ [s.list.length]) l).Nodup
  rw [up_ne hab]
  have key : ∀ x, (s.watch x ++ [s.list.length]).Nodup := fun x => by
   rw [List.nodup_append]
   refine ⟨h.wnd x, by simp, fun y hy z hz q => ?_⟩
   rw [List.mem_singleton.1 hz] at q
   exact hf x (q ▸ hy)
  by_cases h1 : l = b
  ·subst h1; rw [up_eq]; exact key _
  ·rw [up_ne h1]
   by_cases h2 : l = a
   ·subst h2; rw [up_eq]; exact key _
   ·rw [up_ne h2]; exact h.wnd l
theorem Inv0.app1 (h : Inv0 V s s.watch) {c : Cl} (hc : c.length ≤ 1) (hr : ∀ x ∈ c, x ≠ 0 /\ x.natAbs ≤ V) {d : Bool} (h1 : s.dead = true -> d = true) (h2 : c = [] -> d = true) (h3 : d = false -> ∀ a, c = [a] -> a ∈ s.trail /\ s.lev a.natAbs = 0) :
  Inv0 V { s with list := s.list ++ [c], dead := d } s.watch :=
 h.app (Wt := s.watch) hr (by
  match c, hc with
  | [], _ => exact List.Pairwise.nil
  | [_], _ => simp) (fun _ _ _ => Iff.rfl) (fun l => ⟨fun q => absurd q (h.fresh l _ (Nat.le_refl _)), fun ⟨a, b, r, q, _⟩ => by rw [q] at hc; simp at hc⟩) h.wnd h1 h2 h3
end
end
end Go.Proofs.YtjmignmnlpamjaaGreat.S43
