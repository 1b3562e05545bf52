/- Part 16: walks by contracts, and plain laws. -/
import Derived.Test.YtjmignmnlpamjaaGreatVa15
set_option linter.unusedVariables false
set_option linter.unusedSimpArgs false
set_option linter.unusedSectionVars false
set_option maxRecDepth 100000
set_option maxHeartbeats 4000000
namespace Go.Proofs.YtjmignmnlpamjaaGreat.S43
section
def ZJo (T : Int -> Prop) (l : List Cl) : Prop := ∀ c ∈ l, ∃ x ∈ c, T x
theorem ZKC {T : Int -> Prop} {l : List Cl} {a : Int -> Prop} (h1 : ∀ x, T x -> ¬ T (-x)) (h2 : ZJo T l) (h3 : ∀ x, a x -> T x) : ∀ x, Der l a x -> T x := fun x h => by
 induction h with
 | base q => exact h3 _ q
 | @step c x hc hx _ ih =>
  obtain ⟨y, y1, y2⟩ := h2 c hc
  by_cases e : y = x
  ·rw [<- e]; exact y2
  ·exact absurd (ih y y1 e) (h1 y y2)
theorem ZFR {T : Int -> Prop} {l : List Cl} {a : Int -> Prop} (h1 : ∀ x, T x -> ¬ T (-x)) (h2 : ZJo T l) (h3 : ∀ x, a x -> T x) : ¬ Conf l a := fun ⟨c, hc, h⟩ => by
 obtain ⟨y, y1, y2⟩ := h2 c hc
 exact h1 y y2 (ZKC h1 h2 h3 _ (h y y1))
section
variable {V : Nat} {asm : List Int} {cls : List Cl} {r : RS}
theorem GInv.learned_sat (h : GInv V asm cls r) {T : Int -> Prop} (h1 : ∀ x, T x -> ¬ T (-x)) (ht : ∀ x : Int, x ≠ 0 -> x.natAbs ≤ V -> T x \/ T (-x)) (h2 : ZJo T cls) : ZJo T (cls ++ r.learned) := by
 have hr : ∀ c ∈ r.learned, ∀ y ∈ c, y ≠ 0 /\ y.natAbs ≤ V := fun c hc y hy => by
  obtain ⟨c', c1, c2⟩ := h.list.to c (List.mem_append_right _ hc)
  exact h.inv.rng c' c1 y (c2.mem_iff.2 hy)
 have go : ∀ n, n ≤ r.learned.length -> ZJo T (cls ++ r.learned.take n) := by
  intro n
  induction n with
  | zero => intro _; rw [List.take_zero, List.append_nil]; exact h2
  | succ n ih =>
   intro hn c hc
   have ihn := ih (by omega)
   rw [List.take_succ_eq_append_getElem (by omega), <- List.append_assoc] at hc
   rcases List.mem_append.1 hc with hc | hc
   ·exact ihn c hc
   ·rw [List.mem_singleton.1 hc]
    refine Classical.byContradiction fun q => ?_
    refine ZFR h1 ihn (fun z => ?_) (h.rup n _ (List.getElem?_eq_getElem (by omega)))
    rintro ⟨y, hy, rfl⟩
    obtain ⟨q1, q2⟩ := hr _ (List.getElem_mem (by omega)) y hy
    rcases ht y q1 q2 with q3 | q3
    ·exact absurd ⟨y, hy, q3⟩ q
    ·exact q3
 have := go r.learned.length (Nat.le_refl _)
 rwa [List.take_length] at this
theorem GInv.no (h : GInv V asm cls r) (hc : Conf (cls ++ r.learned) fun _ => False) {T : Int -> Prop} (h1 : ∀ x, T x -> ¬ T (-x)) (ht : ∀ x : Int, x ≠ 0 -> x.natAbs ≤ V -> T x \/ T (-x)) : ¬ ZJo T cls := fun h2 =>
 ZFR h1 (h.learned_sat h1 ht h2) (fun _ q => q.elim) hc
theorem GInv.no_dead (h : GInv V asm cls r) (hd : r.s.dead = true) : Conf (cls ++ r.learned) fun _ => False := (h.dead hd).monoL h.list.symm.to
theorem GInv.no_zero (h : GInv V asm cls r) {k : Nat} (hk : (ZAG (V + 1) r.s).2 = some k) (hb : (ZAG (V + 1) r.s).1.begins = []) : Conf (cls ++ r.learned) fun _ => False := by
 obtain ⟨kp, _, k3⟩ := prop_ok (V + 1) r.s h.inv (by omega)
 exact (ZIt (k3 k hk) hb).monoL (h.list.trans kp.same).symm.to
theorem GInv.yes (h : GInv V asm cls r) (hh : r.s.head = r.s.trail.length) (hd : r.s.dead = false) (hall : ∀ x : Int, x ≠ 0 -> x.natAbs ≤ V -> x ∈ r.s.trail \/ -x ∈ r.s.trail) (hb : asm.length ≤ r.s.begins.length) : ZJo (· ∈ r.s.trail) cls /\ ∀ x ∈ asm, x ∈ r.s.trail := by
 refine ⟨fun c hc => ?_, fun x hx => ?_⟩
 ·obtain ⟨c', c1, c2⟩ := h.list.to c (List.mem_append_left _ hc)
  have key : ∃ x ∈ c', x ∈ r.s.trail := by
   match c', c1 with
   | [], c1 => rw [h.inv.emp c1] at hd; cases hd
   | [a], c1 => exact ⟨a, by simp, (h.inv.unit hd a c1).1⟩
   | a :: b :: rr, c1 =>
    obtain ⟨k, hk⟩ := ZBy.1 c1
    have ha := h.inv.rng _ c1 a (by simp)
    rcases hall a ha.1 ha.2 with q | q
    ·exact ⟨a, by simp, q⟩
    ·have := (h.inv.two k a b rr hk r.s.head (Nat.le_refl _) fun q => q.elim).1 (by rw [hh, List.take_length]; exact q)
     exact ⟨b, by simp, this.1⟩
  obtain ⟨x, x1, x2⟩ := key
  exact ⟨x, c2.mem_iff.1 x1, x2⟩
 ·obtain ⟨j, hj⟩ := ZBy.1 hx
  exact (h.ast j x hj (Nat.lt_of_lt_of_le (List.getElem?_eq_some_iff.1 hj).1 hb)).1
def Zw (s : SS) (st : (Nat -> Bool) × (Int -> Bool)) (y : Int) : (Nat -> Bool) × (Int -> Bool) :=
 if st.1 y.natAbs = false \/ s.lev y.natAbs = 0 then st
 else match s.rea y.natAbs with
  | some q => ((s.list.getD q []).foldl (fun f z => up f z.natAbs true) st.1, st.2)
  | none => (st.1, up st.2 y true)
def ZBR (s : SS) (asm : List Int) (x : Int) : List Int := asm.filter (s.trail.reverse.foldl (Zw s) (up (fun _ => false) x.natAbs true, up (fun _ => false) x true)).2
theorem ZDo : ∀ (c : Cl) (f : Nat -> Bool) (v : Nat), f v = true -> (c.foldl (fun f z => up f z.natAbs true) f) v = true
 | [], _, _, h => h
 | z :: c, f, v, h => ZDo c _ v (by
  show up f z.natAbs true v = true
  by_cases e : v = z.natAbs
  ·rw [e, up_eq]
  ·rw [up_ne e]; exact h)
theorem ZGw : ∀ (c : Cl) (f : Nat -> Bool), ∀ z ∈ c, (c.foldl (fun f z => up f z.natAbs true) f) z.natAbs = true
 | y :: c, f, z, hz => by
  rcases List.mem_cons.1 hz with rfl | hz
  ·exact ZDo c _ _ (up_eq _ _ _)
  ·exact ZGw c _ z hz
theorem ZDi (s : SS) : ∀ (t : List Int) (st : (Nat -> Bool) × (Int -> Bool)) (z : Int), st.2 z = true -> (t.foldl (Zw s) st).2 z = true
 | [], _, _, h => h
 | y :: t, st, z, h => ZDi s t _ z (by
  unfold Zw
  split
  ·exact h
  ·split
   ·exact h
   ·show up st.2 y true z = true
    by_cases e : z = y
    ·rw [e, up_eq]
    ·rw [up_ne e]; exact h)
theorem ZGa (s : SS) : ∀ (t : List Int) (st : (Nat -> Bool) × (Int -> Bool)) (z : Int), (t.foldl (Zw s) st).2 z = true -> st.2 z = true \/ (z ∈ t /\ s.rea z.natAbs = none)
 | [], _, _, h => .inl h
 | y :: t, st, z, h => by
  rcases ZGa s t _ z h with q | ⟨q1, q2⟩
  ·unfold Zw at q
   split at q
   ·exact .inl q
   ·split at q
    ·exact .inl q
    ·rename_i hr
     have q : up st.2 y true z = true := q
     by_cases e : z = y
     ·subst e; exact .inr ⟨by simp, hr⟩
     ·rw [up_ne e] at q; exact .inl q
  ·exact .inr ⟨by simp [q1], q2⟩
theorem ZGb {s : SS} {W : Int -> List Nat} {E : Nat -> Prop} (h : Inv V s W E) {a : Int -> Prop} : ∀ (p : Nat), p ≤ s.trail.length -> ∀ (st : (Nat -> Bool) × (Int -> Bool)), (∀ z, ((s.trail.take p).reverse.foldl (Zw s) st).2 z = true -> a z) ->
  ∀ (q : Nat) (y : Int), q < p -> s.trail[q]? = some y -> st.1 y.natAbs = true -> Der s.list a y
 | 0, _, _, _, q, _, hq, _, _ => absurd hq (Nat.not_lt_zero q)
 | p + 1, hp, st, ha, q, y, hq, hy, hs => by
  have hx : s.trail[p]? = some (s.trail[p]'(by omega)) := List.getElem?_eq_getElem (by omega)
  have htk : (s.trail.take (p + 1)).reverse = s.trail[p]'(by omega) :: (s.trail.take p).reverse := by
   rw [List.take_succ_eq_append_getElem (by omega), List.reverse_append]; rfl
  generalize s.trail[p]'(by omega) = x at hx htk
  rw [htk, List.foldl_cons] at ha
  have ih := ZGb h p (by omega) (Zw s st x) ha
  have hmono : ∀ v, st.1 v = true -> (Zw s st x).1 v = true := fun v hv => by
   unfold Zw
   split
   ·exact hv
   ·split
    ·exact ZDo _ _ v hv
    ·exact hv
  by_cases hqp : q = p
  ·subst hqp
   have hxy : x = y := Option.some.inj (hx.symm.trans hy)
   subst hxy
   by_cases h0 : s.lev x.natAbs = 0
   ·exact ZDR h a (List.mem_of_getElem? hx) h0
   ·cases hr : s.rea x.natAbs with
    | none =>
     refine Der.base (ha x (ZDi s _ _ x ?_))
     unfold Zw
     rw [if_neg (fun q => q.elim (fun q => by rw [hs] at q; cases q) h0), hr]
     exact up_eq _ _ _
    | some k =>
     obtain ⟨c, c1, c2, c3⟩ := h.rea q x hx k hr
     refine Der.step (List.mem_of_getElem? c1) c2 fun z hz hne => ?_
     obtain ⟨i, i1, i2⟩ := Z2.1 (c3 z hz hne)
     refine ih i (-z) i1 i2 ?_
     rw [Int.natAbs_neg]
     unfold Zw
     rw [if_neg (fun q => q.elim (fun q => by rw [hs] at q; cases q) h0), hr]
     have hg : s.list.getD k [] = c := by rw [List.getD_eq_getElem?_getD, c1, Option.getD_some]
     show ((s.list.getD k []).foldl (fun f z => up f z.natAbs true) st.1) z.natAbs = true
     rw [hg]
     exact ZGw c _ z hz
  ·exact ih q y (by omega) hy (hmono _ hs)
theorem GInv.blame (h : GInv V asm cls r) {x : Int} (ha : asm[r.s.begins.length]? = some x) (hx : -x ∈ r.s.trail) : x ∈ ZBR r.s asm x /\ Der r.s.list (· ∈ ZBR r.s asm x) (-x) := by
 have hxm := List.mem_of_getElem? ha
 have hlt := (List.getElem?_eq_some_iff.1 ha).1
 have hin : x ∈ ZBR r.s asm x := List.mem_filter.2 ⟨hxm, ZDi _ _ _ _ (show up (fun _ => false) x true x = true from up_eq _ _ _)⟩
 refine ⟨hin, ?_⟩
 obtain ⟨p, hp⟩ := ZBy.1 hx
 refine ZGb h.inv r.s.trail.length (Nat.le_refl _) (up (fun _ => false) x.natAbs true, up (fun _ => false) x true) (fun z hz => ?_) p (-x) (List.getElem?_eq_some_iff.1 hp).1 hp (by rw [Int.natAbs_neg]; exact (show up (fun _ => false) x.natAbs true x.natAbs = true from up_eq _ _ _))
 rw [List.take_length] at hz
 refine List.mem_filter.2 ⟨?_, hz⟩
 rcases ZGa _ _ _ _ hz with q | ⟨q1, q2⟩
 ·by_cases e : z = x
  ·rw [e]; exact hxm
  ·have q' : up (fun _ => false) x true z = true := q
   rw [up_ne e] at q'
   cases q'
 ·have hzt := List.mem_reverse.1 q1
  refine h.dcs z hzt q2 ?_
  have := h.inv.lev_le hzt
  omega
theorem GInv.core (h : GInv V asm cls r) {x : Int} (ha : asm[r.s.begins.length]? = some x) (hx : -x ∈ r.s.trail) {T : Int -> Prop} (h1 : ∀ x, T x -> ¬ T (-x)) (ht : ∀ x : Int, x ≠ 0 -> x.natAbs ≤ V -> T x \/ T (-x)) (hT : ∀ y ∈ ZBR r.s asm x, T y) : ¬ ZJo T cls := fun h2 => by
 obtain ⟨b1, b2⟩ := h.blame ha hx
 have h3 : ZJo T r.s.list := fun c hc => by
  obtain ⟨c', c1, c2⟩ := h.list.symm.to c hc
  obtain ⟨y, y1, y2⟩ := h.learned_sat h1 ht h2 c' c1
  exact ⟨y, c2.mem_iff.1 y1, y2⟩
 exact h1 x (hT x b1) (ZKC h1 h3 hT _ b2)
end
end
section
section
variable {V : Nat} {s : SS} {W : Int -> List Nat} {E : Nat -> Prop} {w x : Int} {r : Cl} {k : Nat} {kept rest : List Nat}
theorem ZKj : ∀ {n : Nat} {l : List Nat}, l.Nodup -> (∀ k ∈ l, k < n) -> l.length ≤ n := fun {n l} hn h => by
 have h1 : l.length ≤ (List.range n).length := List.Nodup.length_le_of_subset hn fun k hk => List.mem_range.2 (h k hk)
 simpa using h1
theorem Inv0.wlen (h : Inv0 V s W) (l : Int) : (W l).length ≤ s.list.length :=
 ZKj (h.wnd l) fun k hk => by
  obtain ⟨a, b, r, e, _⟩ := h.wmem l k hk
  exact (List.getElem?_eq_some_iff.1 e).1
theorem Inv0.tlen (h : Inv0 V s W) : s.trail.length ≤ V := trail_len h.trng h.tdis
theorem LInv.lens (h : LInv V s w kept rest) : s.trail.length ≤ V /\ kept.length + rest.length ≤ s.list.length /\ ∀ l, l ≠ w -> (s.watch l).length ≤ s.list.length := by
 refine ⟨h.inv.toInv0.tlen, ?_, fun l hl => ?_⟩
 ·have := h.inv.toInv0.wlen w
  rw [up_eq, List.length_append] at this
  exact this
 ·have := h.inv.toInv0.wlen l
  rwa [up_ne hl] at this
theorem visit_true (hn : ZJZ w (s.list.getD k []) = x :: w :: r) (h : s.val x = true) : visit s w k kept = (({ s with list := s.list.set k (x :: w :: r) }, kept ++ [k]), false) := by
 unfold visit
 rw [hn]
 simp only [h, if_true]
theorem visit_some {n : Nat} (hn : ZJZ w (s.list.getD k []) = x :: w :: r) (h : s.val x = false) (hf : r.findIdx? (fun y => !s.val (-y)) = some n) : visit s w k kept = (({ s with list := s.list.set k (x :: r.getD n 0 :: r.set n w), watch := up s.watch (r.getD n 0) (s.watch (r.getD n 0) ++ [k]) }, kept), false) := by
 unfold visit
 rw [hn]
 simp only [h, hf, Bool.false_eq_true, if_false]
theorem visit_bad (hn : ZJZ w (s.list.getD k []) = x :: w :: r) (h : s.val x = false) (hf : r.findIdx? (fun y => !s.val (-y)) = none) (h2 : s.val (-x) = true) : visit s w k kept = (({ s with list := s.list.set k (x :: w :: r) }, kept ++ [k]), true) := by
 unfold visit
 rw [hn]
 simp only [h, hf, h2, Bool.false_eq_true, if_false, if_true]
theorem visit_unit (hn : ZJZ w (s.list.getD k []) = x :: w :: r) (h : s.val x = false) (hf : r.findIdx? (fun y => !s.val (-y)) = none) (h2 : s.val (-x) = false) : visit s w k kept = ((Zq { s with list := s.list.set k (x :: w :: r) } x (some k), kept ++ [k]), false) := by
 unfold visit
 rw [hn]
 simp only [h, hf, h2, Bool.false_eq_true, if_false]
theorem visits_go (h : (visit s w k kept).2 = false) : ZAc w (k :: rest) kept s = ZAc w rest (visit s w k kept).1.2 (visit s w k kept).1.1 := by
 show (if (visit s w k kept).2 then _ else _) = _
 rw [h]; rfl
theorem visits_stop (h : (visit s w k kept).2 = true) : ZAc w (k :: rest) kept s = ({ (visit s w k kept).1.1 with watch := up (visit s w k kept).1.1.watch w ((visit s w k kept).1.2 ++ rest) }, some k) := by
 show (if (visit s w k kept).2 then _ else _) = _
 rw [h]; rfl
theorem propS_end {f : Nat} (h : ¬ s.head < s.trail.length) : ZAG f s = (s, none) := by
 cases f with
 | zero => rfl
 | succ f => unfold ZAG; rw [if_neg h]
theorem propS_go {f : Nat} {t : Int} (h : s.head < s.trail.length) (ht : s.trail.getD s.head 0 = t) : ZAG (f + 1) s = if (ZAc (-t) (s.watch (-t)) [] { s with head := s.head + 1 }).2.isSome then ZAc (-t) (s.watch (-t)) [] { s with head := s.head + 1 } else ZAG f (ZAc (-t) (s.watch (-t)) [] { s with head := s.head + 1 }).1 := by
 subst ht
 rw [ZAG]
 rw [if_pos h]
theorem norm_cases {a b : Int} (hn : ZJZ w (a :: b :: r) = x :: w :: r) (hab : a ≠ b) : (a = w /\ b = x) \/ (a ≠ w /\ a = x /\ b = w) := by
 have hn : (if a = w then b :: a :: r else a :: b :: r) = x :: w :: r := hn
 by_cases h : a = w
 ·rw [if_pos h] at hn
  injection hn with h1 h2
  exact .inl ⟨h, h1⟩
 ·rw [if_neg h] at hn
  injection hn with h1 h2
  injection h2 with h2 _
  exact .inr ⟨h, h1, h2⟩
theorem getD_set_ne {l : List Cl} {k j : Nat} {c : Cl} (h : j ≠ k) : (l.set k c).getD j [] = l.getD j [] := by
 rw [List.getD_eq_getElem?_getD, List.getD_eq_getElem?_getD, List.getElem?_set_ne (Ne.symm h)]
theorem getD_set_eq {l : List Cl} {k : Nat} {c : Cl} (h : k < l.length) : (l.set k c).getD k [] = c := by
 rw [List.getD_eq_getElem?_getD, List.getElem?_set]; simp [h]
end
end
end Go.Proofs.YtjmignmnlpamjaaGreat.S43
namespace Go.Proofs.YtjmignmnlpamjaaGreat
section
open Go.RowKit
section
variable {P : Program} {ops : Array Oper} {hp : List HObj} {md : Region.Mode} {β : Type} {H : β -> List HObj} {D : β -> Dat} {dd : Nat -> Dat} {m : Nat} {fr fr' : List Dat} {o : Oper}
def ZLg (md : Region.Mode) (ops : Array Oper) (m i : Nat) : Bool := match ops[m]? with
 | some om => om.after.toList.any fun e => Region.binds md e && e.on == i
 | none => false
theorem ZJ5 {m i : Nat} (h : ZLg md ops m i = true) : ∃ om, ops[m]? = some om /\ ∃ e, e ∈ om.after /\ Region.binds md e = true /\ e.on = i := by
 unfold ZLg at h
 cases ho : ops[m]? with
 | none => rw [ho] at h; cases h
 | some om =>
  rw [ho] at h
  simp only [List.any_eq_true, Bool.and_eq_true, beq_iff_eq] at h
  obtain ⟨e, he, hb, heo⟩ := h
  exact ⟨om, rfl, e, by simpa using he, hb, heo⟩
def sOpE (P : Program) (md : Region.Mode) (ops : Array Oper) (hp : List HObj) {β : Type} (H : β -> List HObj) (D : β -> Dat) (dd : Nat -> Dat) (m : Nat) (i : Nat) (K : List Dat -> Option β -> Prop) (fr : List Dat) (c : Option β) : Prop :=
 ∃ o, ops[i]? = some o /\ ((i = m /\ c = none /\ SW P ops hp H D o fr /\ ∀ x, K (ZB fr o.dst (D x)) (some x)) \/ (i ≠ m /\ (∀ c : Option β, (c ≠ none -> ZLg md ops m i = false) -> SYG P ops (HH hp H c) o fr (dd i)) /\ K (ZB fr o.dst (dd i)) c))
def ZE7 (P : Program) (md : Region.Mode) (ops : Array Oper) (hp : List HObj) {β : Type} (H : β -> List HObj) (D : β -> Dat) (dd : Nat -> Dat) (m n : Nat) (L : Array Bool -> List Dat -> Option β -> Prop) : Nat -> Array Bool -> List Dat -> Option β -> Prop
 | 0, listed, fr, c => L listed fr c
 | f + 1, listed, fr, c =>
  Region.ready md ops listed ≠ [] /\ ∀ i ∈ Region.ready md ops listed, i < n /\ sOpE P md ops hp H D dd m i (ZE7 P md ops hp H D dd m n L f (listed.setIfInBounds i true)) fr c
theorem ZB5 {n g : Nat} {L : Array Bool -> List Dat -> Option β -> Prop} {Q' : Exit -> Act -> World -> Prop} {P0 : Nat -> Prop} {B : Nat} {w0 : World} : ∀ (f : Nat) (listed : Array Bool) (fr : List Dat) (c : Option β) (a : Act) (w : World), HeadInv md ops n listed -> m < ops.size -> (c ≠ none -> listed.getD m false = true) -> Hp P0 B w0 (HH hp H c) w -> Fr (Imm P0 B (HH hp H c)) w a fr ->
  (∀ listed fr c a w', Hp P0 B w0 (HH hp H c) w' -> Fr (Imm P0 B (HH hp H c)) w' a fr -> L listed fr c -> wpAny P md ops Q' g listed a w') -> ZE7 P md ops hp H D dd m n L f listed fr c -> wpAny P md ops Q' (f + g) listed a w
 | 0, listed, fr, c, a, w, _, _, _, hh, hf, hL, h => by rw [Nat.zero_add]; exact hL _ _ _ _ _ hh hf h
 | f + 1, listed, fr, c, a, w, inv, hms, hcm, hh, hf, hL, h => by
  rw [show f + 1 + g = (f + g) + 1 by omega]
  refine ⟨fun h0 => absurd h0 h.1, fun i hi => ?_⟩
  obtain ⟨o, ho, h1⟩ := (h.2 i hi).2
  have inv' := inv.set hi (h.2 i hi).1
  unfold wpOp
  simp only [ho]
  rcases h1 with ⟨hm, hc, hw, hk⟩ | ⟨hm, hs, hk⟩
  ·subst hc
   have hwant : Region.wanted o (yielded ops a.tmps) = true := by simp [Region.wanted, hw.guard]
   rw [if_pos hwant]
   have hcm' : ∀ x : β, (some x : Option β) ≠ none -> (listed.setIfInBounds i true).getD m false = true := fun x _ => by
    subst hm
    have : i < listed.size := by rw [inv.size]; exact hms
    simp [this]
   refine .inl (hw.out hh (hf.on _) _ _ fun x v w' hh' hrd hd => ?_)
   exact ZB5 f _ _ (some x) _ _ inv' hms (hcm' x) hh' (Fr.put (hf.mono fun d u hu => hrd d u hu) hd) hL (hk x)
  ·have hcb : c ≠ none -> ZLg md ops m i = false := fun hcn => by
    cases hb : ZLg md ops m i with
    | false => rfl
    | true =>
     have hlm := hcm hcn
     obtain ⟨om, hom, e, he, hbe, heo⟩ := ZJ5 hb
     have hli := inv.closed m om hom hlm e he hbe
     rw [heo, getD_both (mem_ready.1 hi).1] at hli
     cases hli
   have := (hs c hcb).step (Q := Q') hh hf (K := wpAny P md ops Q' (f + g) (listed.setIfInBounds i true)) fun a' w' e hf' => ZB5 f _ _ c _ _ inv' hms (fun hcn => by rw [getD_set_ne false hm]; exact hcm hcn) (hh.ext e) hf' hL hk
   split
   ·rename_i hw; rw [if_pos hw] at this; exact .inl this
   ·rename_i hw; rw [if_neg hw] at this; exact this
theorem ZHK {n i : Nat} {oi : Oper} {L : Array Bool -> List Dat -> Option β -> Prop} (hi : ops[i]? = some oi) (him : i ≠ m)
  (hs : Region.sinkB md ops n = true) (hc : Region.chainB md ops n = true) (hn : n < ops.size) (hin : i < n)
  (hdone : ∀ listed a c, L listed a c -> ∀ j ∈ Region.ready md ops listed, n ≤ j) :
  ∀ (f : Nat) (listed : Array Bool) (fr : List Dat) (c : Option β), HeadInv md ops n listed ->
   (∀ j oj, ops[j]? = some oj -> j ≠ i -> listed.getD j true = false -> (∀ e ∈ oj.after, Region.binds md e = true -> e.on ≠ i) -> oi.apart ops oj = true) ->
   i ∈ Region.ready md ops listed -> (∀ c : Option β, (c ≠ none -> ZLg md ops m i = false) -> SYG P ops (HH hp H c) oi fr (dd i)) ->
   ZE7 P md ops hp H D dd m n L f (listed.setIfInBounds i true) (ZB fr oi.dst (dd i)) c -> ZE7 P md ops hp H D dd m n L (f + 1) listed fr c := by
 intro f
 induction f with
 | zero =>
  intro listed fr c inv _ hr hy H
  have hun := (mem_ready.1 hr).1
  refine ⟨fun h => (by rw [h] at hr; cases hr), fun j hj => ?_⟩
  have hjn : j < n := by
   rcases Nat.lt_or_ge j n with h | h
   ·exact h
   ·exact absurd hj (tail_waits hs hc hn inv _ i rfl hin hun j h)
  refine ⟨hjn, ?_⟩
  by_cases hji : j = i
  ·subst hji; exact ⟨oi, hi, .inr ⟨him, hy, H⟩⟩
  ·have := hdone _ _ _ H j (ready_mono hj hji)
   omega
 | succ f ih =>
  intro listed fr c inv hfree hr hy H
  have hun := (mem_ready.1 hr).1
  refine ⟨fun h => (by rw [h] at hr; cases hr), fun j hj => ?_⟩
  have hjn : j < n := by
   rcases Nat.lt_or_ge j n with h | h
   ·exact h
   ·exact absurd hj (tail_waits hs hc hn inv _ i rfl hin hun j h)
  refine ⟨hjn, ?_⟩
  by_cases hji : j = i
  ·subst hji; exact ⟨oi, hi, .inr ⟨him, hy, H⟩⟩
  ·obtain ⟨oj', hoj', h1⟩ := (H.2 j (ready_mono hj hji)).2
   obtain ⟨hjun, oj, hoj, hall⟩ := mem_ready.1 hj
   have hoo : oj = oj' := by rw [hoj] at hoj'; simpa using hoj'
   subst hoo
   have hnot : ∀ e ∈ oj.after, Region.binds md e = true -> e.on ≠ i := fun e he hb heq => by
    have h1 := hall e he hb
    rw [heq, getD_both hun] at h1
    cases h1
   obtain ⟨a1, a2, a3⟩ := Oper.apart_spec (hfree j oj hoj hji hjun hnot)
   have hfree' : ∀ k ok, ops[k]? = some ok -> k ≠ i -> (listed.setIfInBounds j true).getD k true = false ->
     (∀ e ∈ ok.after, Region.binds md e = true -> e.on ≠ i) -> oi.apart ops ok = true := fun k ok hk hki hun hno => by
    refine hfree k ok hk hki ?_ hno
    by_cases hjk : j = k
    ·subst hjk; exact hjun
    ·rw [getD_set_ne true hjk] at hun; exact hun
   have key : ∀ (d : Dat) (c' : Option β), ZE7 P md ops hp _ D dd m n L f ((listed.setIfInBounds i true).setIfInBounds j true) (ZB (ZB fr oi.dst (dd i)) oj.dst d) c' ->
     ZE7 P md ops hp _ D dd m n L (f + 1) (listed.setIfInBounds j true) (ZB fr oj.dst d) c' := fun d c' hk => by
    refine ih (listed.setIfInBounds j true) (ZB fr oj.dst d) c' (inv.set hj hjn) hfree' (ready_mono hr (Ne.symm hji)) (fun c hc => (hy c hc).same (ZAr _ _ _) fun t ht => ZBB fun e => a3 t e ht) ?_
    rw [Array.setIfInBounds_comm _ _ hji, <- ZE1 fr (dd i) d a2]
    exact hk
   refine ⟨oj, hoj, ?_⟩
   rcases h1 with ⟨hm, hcn, hw, hk⟩ | ⟨hm, hs', hk⟩
   ·exact .inl ⟨hm, hcn, hw.same (ZAr _ _ _).symm fun t ht => (ZBB fun e => a1 t e ht).symm, fun x => key _ _ (hk x)⟩
   ·exact .inr ⟨hm, fun c hc => (hs' c hc).same (ZAr _ _ _).symm fun t ht => (ZBB fun e => a1 t e ht).symm, key _ _ hk⟩
inductive WDe (P : Program) (md : Region.Mode) (ops : Array Oper) (hp : List HObj) {β : Type} (H : β -> List HObj) (m : Nat) (Q : List Dat -> Prop) : Nat -> List Oper -> List Dat -> Prop
 | nil {k : Nat} {fr : List Dat} : Q fr -> WDe P md ops hp H m Q k [] fr
 | early {k : Nat} {o : Oper} {rest : List Oper} {fr : List Dat} {d : Dat} : ZLg md ops m k = true -> SYG P ops hp o fr d -> WDe P md ops hp H m Q (k + 1) rest (ZB fr o.dst d) -> WDe P md ops hp H m Q k (o :: rest) fr
 | both {k : Nat} {o : Oper} {rest : List Oper} {fr : List Dat} {d : Dat} : (∀ c, SYG P ops (HH hp H c) o fr d) -> WDe P md ops hp H m Q (k + 1) rest (ZB fr o.dst d) -> WDe P md ops hp H m Q k (o :: rest) fr
def ChE (P : Program) (md : Region.Mode) (ops : Array Oper) (hp : List HObj) {β : Type} (H : β -> List HObj) (m : Nat) (dd : Nat -> Dat) (Q : List Dat -> Prop) : List Oper -> Nat -> List Dat -> Prop
 | [], _, fr => Q fr
 | o :: rest, k, fr => (∀ c : Option β, (c ≠ none -> ZLg md ops m k = false) -> SYG P ops (HH hp H c) o fr (dd k)) /\ ChE P md ops hp H m dd Q rest (k + 1) (ZB fr o.dst (dd k))
theorem ZGU {dd' : Nat -> Dat} {Q : List Dat -> Prop} : ∀ (l : List Oper) (k : Nat) (fr : List Dat), (∀ j, k ≤ j -> dd j = dd' j) -> ChE P md ops hp H m dd Q l k fr -> ChE P md ops hp H m dd' Q l k fr
 | [], _, _, _, h => h
 | _ :: rest, k, _, he, h => by
  refine ⟨by rw [<- he k (Nat.le_refl _)]; exact h.1, ?_⟩
  rw [<- he k (Nat.le_refl _)]
  exact ZGU rest (k + 1) _ (fun j hj => he j (by omega)) h.2
theorem WDe.ch {Q : List Dat -> Prop} : ∀ (l : List Oper) (k : Nat) (fr : List Dat), WDe P md ops hp H m Q k l fr -> ∃ dd, ChE P md ops hp H m dd Q l k fr
 | [], _, _, h => ⟨fun _ => dA, by cases h; assumption⟩
 | o :: rest, k, fr, h => by
  have key : ∀ d, (∀ c : Option β, (c ≠ none -> ZLg md ops m k = false) -> SYG P ops (HH hp H c) o fr d) -> WDe P md ops hp H m Q (k + 1) rest (ZB fr o.dst d) -> ∃ dd, ChE P md ops hp H m dd Q (o :: rest) k fr := fun d hd hr => by
   obtain ⟨dd, h1⟩ := WDe.ch rest (k + 1) _ hr
   refine ⟨fun j => if j = k then d else dd j, ?_, ?_⟩
   ·simpa using hd
   ·simp only [if_true]
    exact ZGU rest (k + 1) _ (fun j hj => by rw [if_neg (by omega)]) h1
  cases h with
  | early hb hs hr => exact key _ (fun c hc => by
    cases c with
    | none => exact hs
    | some x => rw [hc (by simp)] at hb; cases hb) hr
  | both hs hr => exact key _ (fun c _ => hs c) hr
theorem ZFf {n g : Nat} {Lq : List Dat -> Option β -> Prop} {ow : Oper} (how : ops[m]? = some ow) (hs : Region.sinkB md ops (m + 1) = true) (hc : Region.chainB md ops (m + 1) = true) (hn : m + 1 < ops.size) :
  ∀ (l : List Oper) (k : Nat) (listed : Array Bool) (fr : List Dat), (∀ j, j < l.length -> l[j]? = ops[k + j]?) -> k + l.length = m -> HeadInv md ops (m + 1) listed -> (∀ j, j < k -> listed.getD j true = true) ->
  Region.lexHead md ops g (l.length + 1) k listed = true -> ChE P md ops hp H m dd (fun fr => SW P ops hp H D ow fr /\ ∀ x, Lq (ZB fr ow.dst (D x)) (some x)) l k fr ->
  ZE7 P md ops hp H D dd m (m + 1) (fun listed' a' c' => Region.seqB md ops g (m + 1) listed' = true /\ Lq a' c') (l.length + 1) listed fr none
 | [], k, listed, fr, hl, hk, inv, hbefore, hB, h => by
  have hkm : k = m := by simpa using hk
  subst hkm
  simp only [List.length_nil, Region.lexHead, Bool.and_eq_true] at hB
  obtain ⟨⟨hr, hf⟩, hB'⟩ := hB
  have hr' : k ∈ Region.ready md ops listed := by simpa using hr
  have hun := (mem_ready.1 hr').1
  refine ⟨fun h0 => (by rw [h0] at hr'; cases hr'), fun i hi => ?_⟩
  have hile : i < k + 1 := by
   rcases Nat.lt_or_ge i (k + 1) with h1 | h1
   ·exact h1
   ·exact absurd hi (tail_waits hs hc hn inv _ k rfl (by omega) hun i h1)
  have hik : i = k := by
   rcases Nat.lt_or_ge i k with h1 | h1
   ·have h2 := (mem_ready.1 hi).1
    rw [hbefore i h1] at h2
    cases h2
   ·omega
  subst hik
  exact ⟨by omega, ow, how, .inl ⟨rfl, rfl, h.1, fun x => ⟨hB', h.2 x⟩⟩⟩
 | o :: l, k, listed, fr, hl, hk, inv, hbefore, hB, h => by
  have h0 : ops[k]? = some o := by simpa using (hl 0 (by simp)).symm
  simp only [List.length_cons] at hB
  rw [Region.lexHead] at hB
  simp only [Bool.and_eq_true] at hB
  obtain ⟨⟨hr, hf⟩, hB'⟩ := hB
  have hkn : k < m := by simp only [List.length_cons] at hk; omega
  have hr' : k ∈ Region.ready md ops listed := by simpa using hr
  have hklt : k < listed.size := by rw [inv.size]; omega
  exact ZHK h0 (by omega) hs hc hn (by omega) (fun listed' a' c' hL => seqB_ready hL.1) (l.length + 1) listed fr none inv (Region.free_spec h0 hf) hr' h.1
   (ZFf (n := n) how hs hc hn l (k + 1) _ _ (fun j hj => by have := hl (j + 1) (by simp; omega); simpa [Nat.add_assoc, Nat.add_comm 1 j] using this) (by simp only [List.length_cons] at hk; omega) (inv.set hr' (by omega))
    (fun j hj => by
     by_cases hjk : k = j
     ·subst hjk; simp [hklt]
     ·rw [getD_set_ne true hjk]; exact hbefore j (by omega)) hB' h.2)
theorem WC.drawE {id : Nat} {l : List Oper} {Q : ZAb} (n : Nat) (H : β -> List HObj) (D : β -> Dat) (ow : Oper) (how : l[n]? = some ow) (hm : P.follows .mixedOrders = true) (hB : Region.lexTailB .any l.toArray (n + 1) = true)
  (h : WDe P .any l.toArray hp H n (fun f => SW P l.toArray hp H D ow f /\ ∀ x, WL P l.toArray Q (l.drop (n + 1)) (ZB f ow.dst (D x)) (H x)) 0 (l.take n) fr) : WC P Q (.region id l.toArray true) fr hp := by
 refine WC.of fun P0 B w0 w a hh hf => ?_
 simp only [Region.lexTailB, Bool.and_eq_true, decide_eq_true_eq] at hB
 obtain ⟨⟨⟨⟨hsel, hn⟩, hs⟩, hc⟩, hlex⟩ := hB
 have hn' : n + 1 < l.length := by simpa using hn
 have htl : (l.take n).length = n := by simp; omega
 have hdl : (l.drop (n + 1)).length = l.toArray.size - (n + 1) := by simp
 have inv0 : HeadInv .any l.toArray (n + 1) (Array.replicate l.toArray.size false) :=
  ⟨by simp, fun j oj _ hl => (by rw [getD_replicate_false] at hl; cases hl), fun t _ ht => getD_in (by simpa using ht) (getD_replicate_false _ _)⟩
 obtain ⟨dd, hch⟩ := h.ch (l.take n) 0 fr
 have HW := ZFf (n := n) (Lq := fun f c => WL P l.toArray Q (l.drop (n + 1)) f (HH hp H c)) (md := .any) (g := l.toArray.size - (n + 1)) (ow := ow) (m := n) (by simpa using how) hs hc hn (l.take n) 0 _ fr (fun j hj => by
  have hj' : j < n := by rw [htl] at hj; exact hj
  simp [hj']) (by simpa using htl) inv0 (fun j hj => by omega) (by rw [htl]; exact hlex) hch
 have hx : Ext w { w with drawn := w.drawn + 1 } := (Ext.refl w).drew
 refine wp_region_any hm ?_
 have := ZB5 (Q' := ZDV Q P0 B w0) (g := l.toArray.size - (n + 1)) _ _ _ none _ _ inv0 (by simpa using (show n < l.length by omega)) (fun h => absurd rfl h) (hh.ext hx) (hf.ext hx) (fun listed fr' c a' w' hh' hf' hL => by
  have := wpAny_of_seq (md := .any) (Q' := ZDV Q P0 B w0) (l.drop (n + 1)) (n + 1) listed a' w' (fun j => by simp [List.getElem?_drop]) (by rw [hdl]; exact hL.1) (hL.2.on hh' hf')
  rwa [hdl] at this) HW
 rw [htl, show n + 1 + (l.toArray.size - (n + 1)) = l.toArray.size by omega] at this
 exact this
end
end
section
open Go.RowKit
open S43 (SS up Zq visit ZAc ZAG ZJZ LInv Inv)
abbrev Lay.wt (X : Lay) (vT : Value) : Lay := { X with vT := vT }
abbrev Lay.ww (X : Lay) (wv : Int -> Value) : Lay := { X with wv := wv }
abbrev ZMK (s : SS) : SS := { s with head := s.head + 1 }
abbrev ZHN (X : Lay) (v1 : Value) : HObj := ZC9 v1 (dP 1 false (dX (ZDZ X)))
abbrev oLs (X : Lay) (N : Nat) : HObj := ZS X.vL 25 ZJe ((List.range N).map X.u)
abbrev ZFL (X : Lay) (N : Nat) (l : List S43.Cl) : List HObj := gO (List.range N) X.u tI (fun j => l.getD j [])
abbrev oWv (X : Lay) (wv : Int -> Value) : HObj := hG X.bw kvI ZAF idV (ZJa wv)
abbrev outO (X : Lay) (V : Nat) (s : SS) (N : Nat) (v1 : Value) (wv : Int -> Value) (B : List HObj) : List HObj :=
 oS X V s :: oV X s :: oL X s :: oR X s :: oT X s :: oB X s :: ZHN X v1 :: oWv X wv :: oLs X N :: (ZFL X N s.list ++ (gO (lits V) wv tI (fun l => ZAj (s.watch l)) ++ B))
abbrev inO (X : Lay) (V : Nat) (s : SS) (N : Nat) (v1 vk : Value) (kept : List Nat) (w : Int) (wv : Int -> Value) (l : List S43.Cl) (W : Int -> List Nat) (B : List HObj) : List HObj :=
 oS X V s :: oV X s :: oL X s :: oR X s :: oT X s :: oB X s :: ZHN X v1 :: oWv X wv :: oLs X N :: ZS vk tI RI (ZAj kept) :: (ZFL X N l ++ (gO ((lits V).erase w) wv tI (fun l => ZAj (W l)) ++ B))
theorem ZDB {ι : Type} {L : List ι} {u : ι -> Value} {e : TypeId} {c : ι -> List Int} {i : ι} {xs : List Int} {a0 a1 a2 a3 a4 a5 a6 a7 a8 a9 : HObj} {B : List HObj} (h : i ∈ L) (hc : c i = xs) : ZS (u i) e RI xs ∈ a0 :: a1 :: a2 :: a3 :: a4 :: a5 :: a6 :: a7 :: a8 :: a9 :: (gO L u e c ++ B) := hc ▸ mT10 (ZMb h)
section
variable {X : Lay} {V : Nat} {s : SS} {N : Nat} {v1 vk : Value} {wv : Int -> Value} {B : List HObj} {w : Int} {kept : List Nat}
theorem ZI9 (hN : s.list.length = N) : (ZCR X V s ++ B).Perm (core X V s ++ (oW X :: oLs X N :: (ZFL X N s.list ++ (ZEJ X V s ++ B)))) := by
 subst hN
 rw [ZEk]
theorem ZIT (hN : s.list.length = N) : (outO X V s N v1 wv B).Perm (ZHN X v1 :: (ZCR (X.ww wv) V s ++ B)) := by
 subst hN
 rw [ZEk]
 exact (List.perm_middle (l₁ := [oS X V s, oV X s, oL X s, oR X s, oT X s, oB X s]))
theorem ZKp (hw : w ∈ lits V) : (outO X V s N v1 wv B).Perm (ZS (wv w) tI RI (ZAj (s.watch w)) :: (oS X V s :: oV X s :: oL X s :: oR X s :: oT X s :: oB X s :: ZHN X v1 :: oWv X wv :: oLs X N :: (ZFL X N s.list ++ (gO ((lits V).erase w) wv tI (fun l => ZAj (s.watch l)) ++ B)))) := by
 have := ZIO (A := oS X V s :: oV X s :: oL X s :: oR X s :: oT X s :: oB X s :: ZHN X v1 :: oWv X wv :: oLs X N :: ZFL X N s.list) (B := B) (u := wv) (e := tI) (c := fun l => ZAj (s.watch l)) hw
 simpa only [List.cons_append] using this
theorem ZGz {vk' : Value} {l : List S43.Cl} {W W' : Int -> List Nat} {kk : List Nat} (hw : w ∈ lits V) (h1 : W' w = kk) (h2 : ∀ j, j ≠ w -> W' j = W j) : (oS X V s :: oV X s :: oL X s :: oR X s :: oT X s :: oB X s :: ZHN X v1 :: oWv X (up wv w vk') :: oLs X N :: ZS vk' tI RI (ZAj kk) :: (ZFL X N l ++ (gO ((lits V).erase w) wv tI (fun l => ZAj (W l)) ++ B))).Perm
  (oS X V s :: oV X s :: oL X s :: oR X s :: oT X s :: oB X s :: ZHN X v1 :: oWv X (up wv w vk') :: oLs X N :: (ZFL X N l ++ (gO (lits V) (up wv w vk') tI (fun l => ZAj (W' l)) ++ B))) := by
 subst h1
 have h3 := ZNO (A := ZFL X N l) (B := B) (u := wv) (u' := up wv w vk') (e := tI) (c := fun l => ZAj (W l)) (c' := fun l => ZAj (W' l)) (ZDn V) hw (fun j hj => S43.up_ne hj) (fun j hj => by rw [h2 j hj])
 rw [S43.up_eq] at h3
 exact h3.cons _ |>.cons _ |>.cons _ |>.cons _ |>.cons _ |>.cons _ |>.cons _ |>.cons _ |>.cons _
theorem ZL8 {k : Nat} {l : List S43.Cl} {W : Int -> List Nat} {xs : List Int} (hk : k ∈ List.range N) (hx : l.getD k [] = xs) : (inO X V s N v1 vk kept w wv l W B).Perm ((ZS (X.u k) tI RI xs :: [ZHN X v1, oS X V s, oV X s]) ++ (oL X s :: oR X s :: oT X s :: oB X s :: oWv X wv :: oLs X N :: ZS vk tI RI (ZAj kept) :: (gO ((List.range N).erase k) X.u tI (fun j => l.getD j []) ++ (gO ((lits V).erase w) wv tI (fun l => ZAj (W l)) ++ B)))) := by
 subst hx
 have h1 := ZIO (A := oS X V s :: oV X s :: oL X s :: oR X s :: oT X s :: oB X s :: ZHN X v1 :: oWv X wv :: oLs X N :: [ZS vk tI RI (ZAj kept)]) (B := gO ((lits V).erase w) wv tI (fun l => ZAj (W l)) ++ B) (u := X.u) (e := tI) (c := fun j => l.getD j []) hk
 simp only [List.cons_append, List.nil_append] at h1 ⊢
 refine h1.trans (List.Perm.cons _ ?_)
 exact List.perm_middle (l₁ := [oS X V s, oV X s, oL X s, oR X s, oT X s, oB X s])
end
section
variable {P : Program} {ops : Array Oper} {hp : List HObj} {o : Oper} {fr : List Dat} {Q : ZAb} {c : Code}
theorem ZEL {ι : Type} [DecidableEq ι] {L : List ι} {u : ι -> Value} {e : TypeId} {c c' : ι -> List Int} {i : ι} {A B : List HObj} {D : Unit -> Dat} {xs ys : List Int} (hn : L.Nodup) (hi : i ∈ L) (hx : c i = xs) (hy : c' i = ys) (hc : ∀ j, j ≠ i -> c' j = c j) (k : ∀ q : List HObj, SW P ops (ZS (u i) e RI xs :: q) (fun _ : Unit => ZS (u i) e RI ys :: q) D o fr) :
  SW P ops (A ++ (gO L u e c ++ B)) (fun _ : Unit => A ++ (gO L u e c' ++ B)) D o fr := ZMs hn hi hc (by rw [hx, hy]; exact k)
theorem ZMr {ι : Type} [DecidableEq ι] {L : List ι} {u : ι -> Value} {e : TypeId} {c c' : ι -> List Int} {i : ι} {A B : List HObj} {D : Value -> Dat} {xs ys : List Int} (hn : L.Nodup) (hi : i ∈ L) (hx : c i = xs) (hy : c' i = ys) (hc : ∀ j, j ≠ i -> c' j = c j) (k : ∀ q : List HObj, SW P ops (ZS (u i) e RI xs :: q) (fun v' : Value => ZS v' e RI ys :: q) D o fr) :
  SW P ops (A ++ (gO L u e c ++ B)) (fun v' => A ++ (gO L (up u i v') e c' ++ B)) D o fr := SW.gAt hn hi hc (by rw [hx, hy]; exact k)
theorem ZIj {X : Lay} {V : Nat} {s : SS} {N : Nat} {v1 : Value} {wv : Int -> Value} {B : List HObj} {w : Int} {ks : List Nat} (t : Nat) (ht : fr[t]? = some (dX (wv w))) (hw : w ∈ lits V) (hks : s.watch w = ks) (h : WC P Q c (fr.set t (dS ZW (ZAj ks))) (inO X V s N v1 ZCX [] w wv s.list s.watch B)) : WC P Q c fr (outO X V s N v1 wv B) := by
 subst hks
 refine WC.perm (ZKp hw) (ZA2 ht ?_)
 refine ZAH tI RI ?_
 exact WC.perm (List.perm_middle (l₁ := [oS X V s, oV X s, oL X s, oR X s, oT X s, oB X s, ZHN X v1, oWv X wv, oLs X N])).symm h
theorem ArgsX.one {x : Operand} {v : Value} (h : OpD fr x (dX v)) : ArgsX fr [x] [v] := ⟨rfl, fun i y u h1 h2 => by
 match i, h1, h2 with
 | 0, h1, h2 => cases h1; cases h2; exact h⟩
theorem CallC.front {f : FuncId} {ds : List Dat} {hp1 : List HObj} {D : Dat} (ob : HObj) (h : CallC P f ds hp1 fun d hp2 => d = D /\ hp2 = hp1) : CallC P f ds (ob :: hp1) fun d hp2 => d = D /\ hp2 = ob :: hp1 := ⟨fun P0 B w0 hp vs W hh hl hv => by
 have hpm : ((ob :: hp1) ++ hp).Perm (hp1 ++ (ob :: hp)) := List.perm_middle.symm
 obtain ⟨hh1, hI⟩ := hh.perm hpm
 refine Calls.mono (h.out P0 B w0 (ob :: hp) vs W hh1 hl fun i d hd => d.weak (hv i d hd) fun k hk => (hI k).1 hk) fun e W' ⟨v, d, hp2, he, hk, hh2, hd⟩ => ?_
 obtain ⟨rfl, rfl⟩ := hk
 obtain ⟨hh3, hI3⟩ := hh2.perm hpm.symm
 exact ⟨v, _, _, he, ⟨rfl, rfl⟩, hh3, Dat.weak _ hd fun k hk => (hI3 k).1 hk⟩⟩
theorem SY.valH {ops : Array Oper} {dst : Option Tmp} {ty : TypeId} {ps : String} {af : Array Edge} {g : Option (Nat × Bool)} {b : Nat} {x y : Operand} {val : Int -> Bool} {l : Int} {u : Bool} (hu : val l = u) (hx : OpD fr x (dX (.map (some b)))) (hm : hG b kvI ZAF vvB (ZEw val) ∈ hp) (hy : OpD fr y (dI l)) (ho : ZAF l) :
  SY Tryz.prog ops hp ⟨dst, .lookup 101 x y false, ty, ps, af, g⟩ fr (dB u) := hu ▸ SY.valG hx hm hy ho
theorem ZAv {rest : List Oper} {dst : Option Tmp} {ty : TypeId} {ps : String} {af : Array Edge} {f : FuncId} {caps : List Value} {cl : Operand} {args : Array Operand} {ats : Array TypeId} {ds1 : List Dat} {hp1 hq : List HObj} {K : Dat -> List HObj -> Prop} (hF : CallC P f (ds1 ++ caps.map dX) hp1 K) (he : ZBu P f) (hc : OpD fr cl (dX (.func (.func f) #[] caps.toArray))) (ha : ArgsD fr args.toList ds1) (hpm : hp.Perm (hp1 ++ hq))
  (hK : ∀ d' hp2, K d' hp2 -> WL P ops Q rest (ZB fr dst d') (hp2 ++ hq)) :
  WL P ops Q (⟨dst, .call { callee := .value cl, args := args, argTypes := ats }, ty, ps, af, none⟩ :: rest) fr hp := WL.perm hpm (WL.callC hF he hc ha hK)
structure Halt (p : Prop) : Prop where
 go : p
theorem WC.joinR {x y : Code} {l : Array Oper} {b : Bool} (id : Nat) (ups : List (Nat × Dat)) (H : List HObj) (h1 : Halt (WC P (JoinQ (ZX fr ups) H) (.seq (.region id l b) x) fr hp)) (h2 : Halt (WC P Q y (ZX fr ups) H)) : WC P Q (.seq (.seq (.region id l b) x) y) fr hp :=
 WC.seq (h1.go.mono fun e f q ⟨he, hq, hl⟩ => by
  subst he
  subst hq
  exact ZFo hl h2.go)
theorem WC.only (id : Nat) {l : Array Oper} {b : Bool} (h : WC P Q (.region id l b) fr hp) : WC P Q (.region id l b) fr hp := h
end
end
end Go.Proofs.YtjmignmnlpamjaaGreat
