/- Part 10: walks by contracts, and plain laws. -/
import Derived.Test.YtjmignmnlpamjaaGreatVa9
set_option linter.unusedVariables false
set_option linter.unusedSimpArgs false
set_option linter.unusedSectionVars false
set_option maxRecDepth 100000
set_option maxHeartbeats 4000000
namespace Go.Proofs.YtjmignmnlpamjaaGreat.S43
section
section
variable {V : Nat} {s : SS} {W : Int -> List Nat} {E : Nat -> Prop}
theorem ZDa {α : Type} {l : List α} {k : Nat} {x y : α} (e : l[k]? = some x) : (l.set k y)[k]? = some y := by
 have := (List.getElem?_eq_some_iff.1 e).1
 rw [List.getElem?_set, if_pos rfl, if_pos this]
theorem ZG6 {α : Type} {l : List α} {k j : Nat} {y : α} (h : j ≠ k) : (l.set k y)[j]? = l[j]? := by
 rw [List.getElem?_set, if_neg fun e => h e.symm]
theorem dis_perm {c c' : Cl} (h : c'.Perm c) (d : c.Pairwise fun x y => x.natAbs ≠ y.natAbs) : c'.Pairwise fun x y => x.natAbs ≠ y.natAbs :=
 (h.pairwise_iff fun {_ _} e => fun q => e q.symm).2 d
theorem Inv.setc (h : Inv V s W E) {k : Nat} {a b : Int} {r : Cl} (e : s.list[k]? = some (a :: b :: r)) {a' b' : Int} {r' : Cl} (hp : (a' :: b' :: r').Perm (a :: b :: r)) {W' Wt : Int -> List Nat} {E' : Nat -> Prop}
  (w1 : ∀ l j, j ≠ k -> (j ∈ W' l ↔ j ∈ W l)) (w2 : ∀ l, k ∈ W' l ↔ (l = a' \/ l = b')) (w3 : ∀ l, (W' l).Nodup) (e1 : ∀ j, j ≠ k -> E j -> E' j)
  (t : ∀ q, q ≤ s.head -> (E' k -> q < s.head) -> (-a' ∈ s.trail.take q -> b' ∈ s.trail /\ s.lev b'.natAbs ≤ s.lev a'.natAbs) /\ (-b' ∈ s.trail.take q -> a' ∈ s.trail /\ s.lev a'.natAbs ≤ s.lev b'.natAbs)) :
  Inv V { s with list := s.list.set k (a' :: b' :: r'), watch := Wt } W' E' where
 rng := fun c hc x hx => by
  rcases List.mem_or_eq_of_mem_set hc with hc | rfl
  ·exact h.rng c hc x hx
  ·exact h.rng _ (List.mem_of_getElem? e) x (hp.mem_iff.1 hx)
 dis := fun c hc => by
  rcases List.mem_or_eq_of_mem_set hc with hc | rfl
  ·exact h.dis c hc
  ·exact dis_perm hp (h.dis _ (List.mem_of_getElem? e))
 trng := h.trng
 tdis := h.tdis
 val := h.val
 bs := h.bs
 bh := h.bh
 hl := h.hl
 lev := h.lev
 un := h.un
 rea := fun p x ex q hq => by
  obtain ⟨c, c1, c2, c3⟩ := h.rea p x ex q hq
  by_cases hqk : q = k
  ·subst hqk
   rw [e] at c1
   cases c1
   exact ⟨_, ZDa e, hp.mem_iff.2 c2, fun y hy hne => c3 y (hp.mem_iff.1 hy) hne⟩
  ·exact ⟨c, (ZG6 hqk).trans c1, c2, c3⟩
 dec := h.dec
 wok := fun j x y rr ej => by
  by_cases hj : j = k
  ·subst hj
   have := (ZDa (y := a' :: b' :: r') e).symm.trans ej
   cases this
   exact ⟨(w2 _).2 (.inl rfl), (w2 _).2 (.inr rfl)⟩
  ·have := h.wok j x y rr ((ZG6 hj).symm.trans ej)
   exact ⟨(w1 _ j hj).2 this.1, (w1 _ j hj).2 this.2⟩
 wmem := fun l j hjl => by
  by_cases hj : j = k
  ·subst hj
   rcases (w2 l).1 hjl with rfl | rfl
   ·exact ⟨_, _, _, ZDa e, .inl rfl⟩
   ·exact ⟨_, _, _, ZDa e, .inr rfl⟩
  ·obtain ⟨x, y, rr, q1, q2⟩ := h.wmem l j ((w1 l j hj).1 hjl)
   exact ⟨x, y, rr, (ZG6 hj).trans q1, q2⟩
 wnd := w3
 two := fun j x y rr ej q hq hE => by
  by_cases hj : j = k
  ·subst hj
   have := (ZDa (y := a' :: b' :: r') e).symm.trans ej
   cases this
   exact t q hq hE
  ·exact h.two j x y rr ((ZG6 hj).symm.trans ej) q hq fun q2 => hE (e1 j hj q2)
 unit := fun hd x hx => by
  rcases List.mem_or_eq_of_mem_set hx with hx | hx
  ·exact h.unit hd x hx
  ·cases hx
 emp := fun hx => by
  rcases List.mem_or_eq_of_mem_set hx with hx | hx
  ·exact h.emp hx
  ·cases hx
def ZJZ (w : Int) : Cl -> Cl
 | a :: b :: r => if a = w then b :: a :: r else a :: b :: r
 | c => c
def visit (s : SS) (w : Int) (k : Nat) (kept : List Nat) : (SS × List Nat) × Bool :=
 match ZJZ w (s.list.getD k []) with
 | a :: b :: r =>
  if s.val a then (({ s with list := s.list.set k (a :: b :: r) }, kept ++ [k]), false)
  else match r.findIdx? fun x => !s.val (-x) with
   | some n => (({ s with list := s.list.set k (a :: r.getD n 0 :: r.set n b), watch := up s.watch (r.getD n 0) (s.watch (r.getD n 0) ++ [k]) }, kept), false)
   | none => if s.val (-a) then (({ s with list := s.list.set k (a :: b :: r) }, kept ++ [k]), true) else ((Zq { s with list := s.list.set k (a :: b :: r) } a (some k), kept ++ [k]), false)
 | _ => ((s, kept), false)
structure LInv (V : Nat) (s : SS) (w : Int) (kept rest : List Nat) : Prop where
 inv : Inv V s (up s.watch w (kept ++ rest)) (· ∈ rest)
 pos : 0 < s.head
 at_ : s.trail[s.head - 1]? = some (-w)
 bb : ∀ b ∈ s.begins, b < s.head
def SameC (l l' : List Cl) : Prop := l.length = l'.length /\ ∀ (k : Nat) (c : Cl), l[k]? = some c -> ∃ c' : Cl, l'[k]? = some c' /\ c'.Perm c
theorem SameC.refl (l : List Cl) : SameC l l := ⟨rfl, fun _ c h => ⟨c, h, List.Perm.refl _⟩⟩
theorem SameC.trans {a b c : List Cl} (h : SameC a b) (k : SameC b c) : SameC a c := ⟨h.1.trans k.1, fun j x e => by
 obtain ⟨y, y1, y2⟩ := h.2 j x e
 obtain ⟨z, z1, z2⟩ := k.2 j y y1
 exact ⟨z, z1, z2.trans y2⟩⟩
theorem SameC.set {l : List Cl} {k : Nat} {c c' : Cl} (e : l[k]? = some c) (h : c'.Perm c) : SameC l (l.set k c') := ⟨List.length_set.symm, fun j x ej => by
 by_cases hj : j = k
 ·subst hj
  rw [e] at ej
  cases ej
  exact ⟨c', ZDa e, h⟩
 ·exact ⟨x, (ZG6 hj).trans ej, List.Perm.refl _⟩⟩
structure Keep (s s' : SS) : Prop where
 same : SameC s.list s'.list
 beg : s'.begins = s.begins
 head : s'.head = s.head
 dead : s'.dead = s.dead
 rea : ∀ x ∈ s'.trail, s'.rea x.natAbs = none -> x ∈ s.trail /\ s.rea x.natAbs = none
 trail : ∃ t, s'.trail = s.trail ++ t
theorem Keep.trans {a b c : SS} (h : Keep a b) (k : Keep b c) : Keep a c := ⟨h.same.trans k.same, k.beg.trans h.beg, k.head.trans h.head, k.dead.trans h.dead, (fun x hx hr => by
 obtain ⟨g1, g2⟩ := k.rea x hx hr
 exact h.rea x g1 g2), by
 obtain ⟨t, e⟩ := h.trail
 obtain ⟨u, f⟩ := k.trail
 exact ⟨t ++ u, by rw [f, e, List.append_assoc]⟩⟩
theorem Inv.reE (h : Inv V s W E) {E' : Nat -> Prop} (he : ∀ k a b r, s.list[k]? = some (a :: b :: r) -> E k -> ¬ E' k -> ∀ q, q ≤ s.head -> (-a ∈ s.trail.take q -> b ∈ s.trail /\ s.lev b.natAbs ≤ s.lev a.natAbs) /\ (-b ∈ s.trail.take q -> a ∈ s.trail /\ s.lev a.natAbs ≤ s.lev b.natAbs)) : Inv V s W E' := by
 have ht : ∀ k a b r, s.list[k]? = some (a :: b :: r) -> ∀ q, q ≤ s.head -> (E' k -> q < s.head) -> (-a ∈ s.trail.take q -> b ∈ s.trail /\ s.lev b.natAbs ≤ s.lev a.natAbs) /\ (-b ∈ s.trail.take q -> a ∈ s.trail /\ s.lev a.natAbs ≤ s.lev b.natAbs) := by
  intro k a b r e q hq hE
  by_cases h1 : E k
  ·by_cases h2 : E' k
   ·exact h.two k a b r e q hq fun _ => hE h2
   ·exact he k a b r e h1 h2 q hq
  ·exact h.two k a b r e q hq fun q1 => absurd q1 h1
 exact { h with two := ht }
theorem ZCv {r : Cl} {n : Nat} (h : n < r.length) (w : Int) : (r.getD n 0 :: r.set n w).Perm (w :: r) := by
 have e1 : r.set n w = r.take n ++ w :: r.drop (n + 1) := List.set_eq_take_append_cons_drop .. |>.trans (by rw [if_pos h])
 have e2 : r = r.take n ++ r[n] :: r.drop (n + 1) := by
  conv => lhs; rw [<- List.take_append_drop n r]
  rw [List.drop_eq_getElem_cons h]
 have e3 : r.getD n 0 = r[n] := by rw [List.getD_eq_getElem?_getD, List.getElem?_eq_getElem h, Option.getD_some]
 rw [e1, e3]
 have h1 : (r[n] :: (r.take n ++ w :: r.drop (n + 1))).Perm (r[n] :: w :: (r.take n ++ r.drop (n + 1))) := List.Perm.cons _ List.perm_middle
 have h2 : (w :: r).Perm (w :: r[n] :: (r.take n ++ r.drop (n + 1))) := List.Perm.cons _ (by
  conv => lhs; rw [e2]
  exact List.perm_middle)
 exact h1.trans ((List.Perm.swap _ _ _).trans h2.symm)
end
section
variable {V : Nat} {s : SS} {w : Int} {kept rest : List Nat}
theorem LInv.cl {k : Nat} (h : LInv V s w kept (k :: rest)) : ∃ (x : Int) (a b : Int) (r : Cl), s.list[k]? = some (a :: b :: r) /\ ZJZ w (s.list.getD k []) = x :: w :: r /\ (x :: w :: r).Perm (a :: b :: r) /\ (∀ l, (l = a \/ l = b) ↔ (l = x \/ l = w)) /\ x.natAbs ≠ w.natAbs /\ -x ∉ s.trail.take s.head := by
 have hk : k ∈ up s.watch w (kept ++ k :: rest) w := by rw [up_eq]; simp
 obtain ⟨a, b, r, e, hw⟩ := h.inv.wmem w k hk
 have hd := h.inv.dis _ (List.mem_of_getElem? e)
 have hab : a.natAbs ≠ b.natAbs := (List.pairwise_cons.1 hd).1 b (by simp)
 have hg : s.list.getD k [] = a :: b :: r := by rw [List.getD_eq_getElem?_getD, e, Option.getD_some]
 have hwt : -w ∈ s.trail := List.mem_of_getElem? h.at_
 have hno : w ∉ s.trail := fun q => h.inv.no_both q hwt
 have hp := h.pos
 have htk : s.trail.take s.head = s.trail.take (s.head - 1) ++ [-w] := by
  have h1 := (List.getElem?_eq_some_iff.1 h.at_)
  obtain ⟨h2, h3⟩ := h1
  conv => lhs; rw [show s.head = s.head - 1 + 1 by omega]
  rw [List.take_succ_eq_append_getElem h2, h3]
 have htwo := h.inv.two k a b r e (s.head - 1) (by omega) (fun _ => by omega)
 by_cases ha : a = w
 ·subst ha
  refine ⟨b, a, b, r, e, by rw [hg]; simp [ZJZ], List.Perm.swap _ _ _, fun l => or_comm, fun q => hab q.symm, fun q => ?_⟩
  rw [htk, List.mem_append, List.mem_singleton] at q
  rcases q with q | q
  ·exact hno (htwo.2 q).1
  ·have : b = a := by omega
   exact hab (by rw [this])
 ·have hb : b = w := hw.resolve_left ha
  subst hb
  refine ⟨a, a, b, r, e, by rw [hg]; simp [ZJZ, ha], List.Perm.refl _, fun l => Iff.rfl, hab, fun q => ?_⟩
  rw [htk, List.mem_append, List.mem_singleton] at q
  rcases q with q | q
  ·exact hno (htwo.1 q).1
  ·exact ha (by omega)
theorem LInv.levw (h : LInv V s w kept rest) : s.lev w.natAbs = s.begins.length := by
 have h1 := h.inv.lev _ _ h.at_
 rw [Int.natAbs_neg] at h1
 have := h.pos
 rw [h1, ZCj fun b hb => by have := h.bb b hb; omega]
theorem Inv.lev_le {W : Int -> List Nat} {E : Nat -> Prop} (h : Inv V s W E) {x : Int} (hx : x ∈ s.trail) : s.lev x.natAbs ≤ s.begins.length := by
 obtain ⟨p, hp⟩ := ZBy.1 hx
 rw [h.lev p x hp]
 exact ZIR _ _
theorem LInv.visit {k : Nat} (h : LInv V s w kept (k :: rest)) :
  Keep s (visit s w k kept).1.1 /\ ((visit s w k kept).2 = false -> LInv V (visit s w k kept).1.1 w (visit s w k kept).1.2 rest) /\
  ((visit s w k kept).2 = true -> Inv V (visit s w k kept).1.1 (up (visit s w k kept).1.1.watch w ((visit s w k kept).1.2 ++ rest)) (fun j => j = k \/ j ∈ rest) /\ (visit s w k kept).1.1.trail = s.trail /\
   ∃ c, (visit s w k kept).1.1.list[k]? = some c /\ w ∈ c /\ 2 ≤ c.length /\ ∀ y ∈ c, -y ∈ s.trail) := by
 obtain ⟨x, a, b, r, e, hn, hp, hab, hxw, hxt⟩ := h.cl
 have hd : (x :: w :: r).Pairwise fun x y => x.natAbs ≠ y.natAbs := dis_perm hp (h.inv.dis _ (List.mem_of_getElem? e))
 have hr : ∀ z ∈ x :: w :: r, z ≠ 0 /\ z.natAbs ≤ V := fun z hz => h.inv.rng _ (List.mem_of_getElem? e) z (hp.mem_iff.1 hz)
 have hwt : -w ∈ s.trail := List.mem_of_getElem? h.at_
 have happ : (kept ++ [k]) ++ rest = kept ++ k :: rest := by simp
 have hW : ∀ l, k ∈ up s.watch w (kept ++ k :: rest) l ↔ (l = x \/ l = w) := fun l => by
  rw [<- hab]
  constructor
  ·intro q
   obtain ⟨a', b', r', e', q'⟩ := h.inv.wmem l k q
   rw [e] at e'
   cases e'
   exact q'.imp Eq.symm Eq.symm
  ·have := h.inv.wok k a b r e
   rintro (rfl | rfl)
   ·exact this.1
   ·exact this.2
 have hmono : ∀ q, q ≤ s.head -> -x ∉ s.trail.take q := fun q hq q1 => hxt (by
  obtain ⟨p, p1, p2⟩ := Z2.1 q1
  exact Z2.2 ⟨p, by omega, p2⟩)
 have hlw := h.levw
 have hE1 : ∀ j, j ≠ k -> j ∈ k :: rest -> j ∈ rest := fun j hj q => by
  rcases List.mem_cons.1 q with q | q
  ·exact absurd q hj
  ·exact q
 have hnd : (kept ++ k :: rest).Nodup := by
  have := h.inv.wnd w
  rwa [up_eq] at this
 unfold S43.visit
 rw [hn]
 simp only
 by_cases hx : s.val x = true
 ·rw [if_pos hx]
  have hxm := (h.inv.val x).1 hx
  refine ⟨⟨SameC.set e hp, rfl, rfl, rfl, (fun _ hx hr => ⟨hx, hr⟩), [], (List.append_nil _).symm⟩, fun _ => ?_, fun q => by cases q⟩
  refine ⟨?_, h.pos, h.at_, h.bb⟩
  rw [happ]
  exact h.inv.setc e hp (fun _ _ _ => Iff.rfl) hW h.inv.wnd hE1 fun q hq _ => ⟨fun q1 => absurd q1 (hmono q hq), fun _ => ⟨hxm, by rw [hlw]; exact h.inv.lev_le hxm⟩⟩
 ·rw [if_neg hx]
  have hxm : x ∉ s.trail := fun q => hx ((h.inv.val x).2 q)
  cases hf : r.findIdx? (fun x => !s.val (-x)) with
  | some n =>
   obtain ⟨hnl, hn1, _⟩ := List.findIdx?_eq_some_iff_getElem.1 hf
   have hg : r.getD n 0 = r[n] := by rw [List.getD_eq_getElem?_getD, List.getElem?_eq_getElem hnl, Option.getD_some]
   have hps := ZCv hnl w
   rw [hg] at hps
   simp only
   rw [hg]
   have hu : -r[n] ∉ s.trail := fun q => by
    have := (h.inv.val _).2 q
    rw [this] at hn1
    cases hn1
   have huw : r[n] ≠ w := fun q => hu (by rw [q]; exact hwt)
   have hux : r[n] ≠ x := fun q => (List.pairwise_cons.1 hd).1 r[n] (by simp) (by rw [q])
   have hpp : (x :: r[n] :: r.set n w).Perm (x :: w :: r) := List.Perm.cons _ hps
   refine ⟨⟨SameC.set e (hpp.trans hp), rfl, rfl, rfl, (fun _ hx hr => ⟨hx, hr⟩), [], (List.append_nil _).symm⟩, fun _ => ?_, fun q => by cases q⟩
   refine ⟨?_, h.pos, h.at_, h.bb⟩
   refine h.inv.setc e (hpp.trans hp) (fun l j hj => ?_) (fun l => ?_) (fun l => ?_) hE1 fun q hq _ => ⟨fun q1 => absurd q1 (hmono q hq), fun q1 => absurd (List.mem_of_mem_take q1) hu⟩
   ·show j ∈ up (up s.watch r[n] (s.watch r[n] ++ [k])) w (kept ++ rest) l ↔ _
    by_cases hl : l = w
    ·subst hl
     rw [up_eq, up_eq]
     simp [hj]
    ·rw [up_ne hl, up_ne hl]
     by_cases hl2 : l = r[n]
     ·rw [hl2, up_eq]
      simp [hj]
     ·rw [up_ne hl2]
   ·show k ∈ up (up s.watch r[n] (s.watch r[n] ++ [k])) w (kept ++ rest) l ↔ _
    by_cases hl : l = w
    ·subst hl
     rw [up_eq]
     constructor
     ·intro q
      rw [List.nodup_append] at hnd
      obtain ⟨_, n2, n3⟩ := hnd
      rcases List.mem_append.1 q with q | q
      ·exact absurd rfl (n3 k q k (by simp))
      ·exact absurd q (List.nodup_cons.1 n2).1
     ·rintro (q | q)
      ·exact absurd (by rw [q]) hxw
      ·exact absurd q.symm huw
    ·rw [up_ne hl]
     by_cases hl2 : l = r[n]
     ·rw [hl2, up_eq]
      simp
     ·rw [up_ne hl2]
      have := hW l
      rw [up_ne hl] at this
      rw [this]
      simp [hl, hl2]
   ·show (up (up s.watch r[n] (s.watch r[n] ++ [k])) w (kept ++ rest) l).Nodup
    by_cases hl : l = w
    ·subst hl
     rw [up_eq]
     rw [List.nodup_append] at hnd ⊢
     obtain ⟨n1, n2, n3⟩ := hnd
     exact ⟨n1, (List.nodup_cons.1 n2).2, fun x hx y hy => n3 x hx y (by simp [hy])⟩
    ·rw [up_ne hl]
     have hwn := h.inv.wnd l
     rw [up_ne hl] at hwn
     by_cases hl2 : l = r[n]
     ·rw [hl2] at hwn hl ⊢
      rw [up_eq, List.nodup_append]
      refine ⟨hwn, by simp, fun x' hx' y hy q => ?_⟩
      rw [List.mem_singleton.1 hy] at q
      subst q
      have := (hW r[n]).1 (by rw [up_ne hl]; exact hx')
      rcases this with q | q
      ·exact hux q
      ·exact huw q
     ·rw [up_ne hl2]; exact hwn
  | none =>
   have hall : ∀ y ∈ r, -y ∈ s.trail := fun y hy => by
    have := List.findIdx?_eq_none_iff.1 hf y hy
    rw [<- h.inv.val]
    simpa using this
   have hI := h.inv.setc (Wt := s.watch) (E' := fun j => j = k \/ j ∈ rest) e hp (fun _ _ _ => Iff.rfl) hW h.inv.wnd (fun j hj q => .inr (hE1 j hj q)) fun q hq hq2 => ⟨fun q1 => absurd q1 (hmono q hq), fun q1 => by
    obtain ⟨p, p1, p2⟩ := Z2.1 q1
    have := ZKE h.inv.tdis p2 h.at_ rfl
    have := hq2 (.inl rfl)
    omega⟩
   simp only
   by_cases hx2 : s.val (-x) = true
   ·rw [if_pos hx2]
    refine ⟨⟨SameC.set e hp, rfl, rfl, rfl, (fun _ hx hr => ⟨hx, hr⟩), [], (List.append_nil _).symm⟩, (fun q => by cases q), fun _ => ⟨?_, rfl, x :: w :: r, ZDa e, by simp, by simp, fun y hy => ?_⟩⟩
    ·rw [happ]; exact hI
    ·rcases List.mem_cons.1 hy with rfl | hy
     ·exact (h.inv.val _).1 hx2
     ·rcases List.mem_cons.1 hy with rfl | hy
      ·exact hwt
      ·exact hall y hy
   ·rw [if_neg hx2]
    have hx2m : -x ∉ s.trail := fun q => hx2 ((h.inv.val _).2 q)
    have hun : ∀ z ∈ s.trail, z.natAbs ≠ x.natAbs := fun z hz q => by
     rcases Int.natAbs_eq_natAbs_iff.1 q with q | q
     ·exact hxm (q ▸ hz)
     ·exact hx2m (q ▸ hz)
    have hA := hI.assign (l := x) (r := some k) hun (hr x (by simp)) (fun j hj => by
     cases hj
     exact ⟨_, ZDa e, by simp, fun y hy hne => by
      rcases List.mem_cons.1 hy with rfl | hy
      ·exact absurd rfl hne
      ·rcases List.mem_cons.1 hy with rfl | hy
       ·exact hwt
       ·exact hall y hy⟩) (fun q => by cases q)
    refine ⟨⟨SameC.set e hp, rfl, rfl, rfl, (fun z hz hzr => by
     rcases List.mem_append.1 hz with hz | hz
     ·exact ⟨hz, (up_ne (hun z hz)).symm.trans hzr⟩
     ·rw [List.mem_singleton.1 hz] at hzr
      exact absurd ((up_eq s.rea x.natAbs (some k)).symm.trans hzr) (by simp)), [x], rfl⟩, fun _ => ⟨?_, h.pos, ?_, h.bb⟩, fun q => by cases q⟩
    ·rw [happ]
     refine hA.reE fun j a' b' r' e' hE hE' q hq => ?_
     have hjk : j = k := by
      rcases hE with q | q
      ·exact q
      ·exact absurd q hE'
     subst hjk
     have e'' := (ZDa (y := x :: w :: r) e).symm.trans e'
     cases e''
     have htk : (s.trail ++ [x]).take q = s.trail.take q := List.take_append_of_le_length (Nat.le_trans hq h.inv.hl)
     refine ⟨fun q1 => ?_, fun _ => ⟨List.mem_append_right _ (by simp), ?_⟩⟩
     ·exact absurd (htk ▸ q1) (hmono q hq)
     ·show up s.lev x.natAbs s.begins.length x.natAbs ≤ up s.lev x.natAbs s.begins.length w.natAbs
      rw [up_eq, up_ne fun q2 => hxw q2.symm, hlw]
      exact Nat.le_refl _
    ·show (s.trail ++ [x])[s.head - 1]? = some (-w)
     have := (List.getElem?_eq_some_iff.1 h.at_).1
     rw [List.getElem?_append_left this]
     exact h.at_
end
end
section
theorem Inv.watch {V : Nat} {s : SS} {W Wt : Int -> List Nat} {E : Nat -> Prop} (h : Inv V s W E) : Inv V { s with watch := Wt } W E :=
 ⟨⟨h.rng, h.dis, h.trng, h.tdis, h.val, h.bs, h.bh, h.hl, h.lev, h.un, h.rea, h.dec, h.wok, h.wmem, h.wnd, h.unit, h.emp⟩, h.two⟩
structure CInv (V : Nat) (s : SS) (k : Nat) : Prop where
 ex : ∃ (E : Nat -> Prop) (w : Int) (c : Cl), Inv V s s.watch E /\ 0 < s.head /\ s.trail[s.head - 1]? = some (-w) /\ (∀ b ∈ s.begins, b < s.head) /\ s.list[k]? = some c /\ w ∈ c /\ ∀ y ∈ c, -y ∈ s.trail
def ZAc (w : Int) : List Nat -> List Nat -> SS -> SS × Option Nat
 | [], kept, s => ({ s with watch := up s.watch w kept }, none)
 | k :: rest, kept, s => if (visit s w k kept).2 then ({ (visit s w k kept).1.1 with watch := up (visit s w k kept).1.1.watch w ((visit s w k kept).1.2 ++ rest) }, some k) else ZAc w rest (visit s w k kept).1.2 (visit s w k kept).1.1
theorem visits_ok {V : Nat} {w : Int} : ∀ (rest kept : List Nat) (s : SS), LInv V s w kept rest -> Keep s (ZAc w rest kept s).1 /\
  ((ZAc w rest kept s).2 = none -> Inv V (ZAc w rest kept s).1 (ZAc w rest kept s).1.watch fun _ => False) /\ ∀ k, (ZAc w rest kept s).2 = some k -> CInv V (ZAc w rest kept s).1 k
 | [], kept, s, h => by
  refine ⟨⟨SameC.refl _, rfl, rfl, rfl, (fun _ hx hr => ⟨hx, hr⟩), [], (List.append_nil _).symm⟩, fun _ => ?_, fun k q => by cases q⟩
  have h1 := h.inv
  rw [List.append_nil] at h1
  exact (h1.reE (E' := fun _ => False) fun k a b r _ q _ => by cases q).watch
 | k :: rest, kept, s, h => by
  obtain ⟨k1, k2, k3⟩ := h.visit
  have e : ZAc w (k :: rest) kept s = if (visit s w k kept).2 then ({ (visit s w k kept).1.1 with watch := up (visit s w k kept).1.1.watch w ((visit s w k kept).1.2 ++ rest) }, some k) else ZAc w rest (visit s w k kept).1.2 (visit s w k kept).1.1 := rfl
  rw [e]
  by_cases hv : (visit s w k kept).2 = true
  ·rw [if_pos hv]
   obtain ⟨g1, g2, c, g3, g4, g5, g6⟩ := k3 hv
   refine ⟨⟨k1.same, k1.beg, k1.head, k1.dead, k1.rea, k1.trail⟩, (fun q => by cases q), fun j q => ?_⟩
   cases q
   refine ⟨_, w, c, g1.watch, ?_, ?_, ?_, g3, g4, fun y hy => ?_⟩
   ·show 0 < (visit s w k kept).1.1.head
    rw [k1.head]; exact h.pos
   ·show (visit s w k kept).1.1.trail[(visit s w k kept).1.1.head - 1]? = some (-w)
    rw [g2, k1.head]; exact h.at_
   ·show ∀ b ∈ (visit s w k kept).1.1.begins, b < (visit s w k kept).1.1.head
    rw [k1.beg, k1.head]; exact h.bb
   ·show -y ∈ (visit s w k kept).1.1.trail
    rw [g2]; exact g6 y hy
  ·rw [if_neg hv]
   obtain ⟨m1, m2, m3⟩ := visits_ok rest (visit s w k kept).1.2 (visit s w k kept).1.1 (k2 (by simpa using hv))
   exact ⟨k1.trans m1, m2, m3⟩
structure Kept (s s' : SS) : Prop where
 same : SameC s.list s'.list
 beg : s'.begins = s.begins
 dead : s'.dead = s.dead
 rea : ∀ x ∈ s'.trail, s'.rea x.natAbs = none -> x ∈ s.trail /\ s.rea x.natAbs = none
 trail : ∃ t, s'.trail = s.trail ++ t
 head : s.head ≤ s'.head
theorem Kept.refl (s : SS) : Kept s s := ⟨SameC.refl _, rfl, rfl, (fun _ hx hr => ⟨hx, hr⟩), ⟨[], (List.append_nil _).symm⟩, Nat.le_refl _⟩
theorem Kept.trans {a b c : SS} (h : Kept a b) (k : Kept b c) : Kept a c := ⟨h.same.trans k.same, k.beg.trans h.beg, k.dead.trans h.dead, (fun x hx hr => by
 obtain ⟨g1, g2⟩ := k.rea x hx hr
 exact h.rea x g1 g2), (by
 obtain ⟨t, e⟩ := h.trail
 obtain ⟨u, f⟩ := k.trail
 exact ⟨t ++ u, by rw [f, e, List.append_assoc]⟩), Nat.le_trans h.head k.head⟩
theorem Inv.start {V : Nat} {s : SS} (h : Inv V s s.watch fun _ => False) {w : Int} (hw : s.trail[s.head]? = some (-w)) : LInv V { s with head := s.head + 1 } w [] (s.watch w) := by
 have hlt := (List.getElem?_eq_some_iff.1 hw).1
 have htk : s.trail.take (s.head + 1) = s.trail.take s.head ++ [-w] := by
  obtain ⟨h1, h2⟩ := List.getElem?_eq_some_iff.1 hw
  rw [List.take_succ_eq_append_getElem h1, h2]
 have hW : up s.watch w ([] ++ s.watch w) = s.watch := by
  funext l
  by_cases hl : l = w
  ·rw [hl, up_eq]; rfl
  ·rw [up_ne hl]
 refine ⟨?_, Nat.succ_pos _, by show s.trail[s.head + 1 - 1]? = some (-w); rw [Nat.add_sub_cancel]; exact hw, fun b hb => Nat.lt_succ_of_le (h.bh b hb)⟩
 show Inv V { s with head := s.head + 1 } (up s.watch w ([] ++ s.watch w)) _
 rw [hW]
 refine ⟨⟨h.rng, h.dis, h.trng, h.tdis, h.val, h.bs, fun b hb => Nat.le_succ_of_le (h.bh b hb), hlt, h.lev, h.un, h.rea, h.dec, h.wok, h.wmem, h.wnd, h.unit, h.emp⟩, fun k a b r e q hq hE => ?_⟩
 have hq' : q ≤ s.head + 1 := hq
 by_cases hqh : q ≤ s.head
 ·exact h.two k a b r e q hqh fun q => q.elim
 ·have hqe : q = s.head + 1 := by omega
  have hnk : k ∉ s.watch w := fun q1 => by
   have : q < s.head + 1 := hE q1
   omega
  have h2 := h.two k a b r e s.head (Nat.le_refl _) fun q => q.elim
  have h3 := h.wok k a b r e
  rw [hqe]
  show (-a ∈ s.trail.take (s.head + 1) -> _) /\ (-b ∈ s.trail.take (s.head + 1) -> _)
  rw [htk]
  refine ⟨fun q1 => ?_, fun q1 => ?_⟩
  ·rcases List.mem_append.1 q1 with q1 | q1
   ·exact h2.1 q1
   ·have : a = w := by have := List.mem_singleton.1 q1; omega
    exact absurd (this ▸ h3.1) hnk
  ·rcases List.mem_append.1 q1 with q1 | q1
   ·exact h2.2 q1
   ·have : b = w := by have := List.mem_singleton.1 q1; omega
    exact absurd (this ▸ h3.2) hnk
theorem trail_len {V : Nat} : ∀ {t : List Int}, (∀ x ∈ t, x ≠ 0 /\ x.natAbs ≤ V) -> t.Pairwise (fun x y => x.natAbs ≠ y.natAbs) -> t.length ≤ V := by
 intro t h1 h2
 have h3 : (t.map Int.natAbs).Nodup := List.pairwise_map.2 h2
 have h4 := List.Nodup.length_le_of_subset h3 (l₂ := (List.range V).map (· + 1)) fun n hn => by
  obtain ⟨x, hx, rfl⟩ := List.mem_map.1 hn
  have := h1 x hx
  exact List.mem_map.2 ⟨x.natAbs - 1, List.mem_range.2 (by omega), by omega⟩
 simpa using h4
def ZAG : Nat -> SS -> SS × Option Nat
 | 0, s => (s, none)
 | f + 1, s =>
  if s.head < s.trail.length then
   if (ZAc (-(s.trail.getD s.head 0)) (s.watch (-(s.trail.getD s.head 0))) [] { s with head := s.head + 1 }).2.isSome then ZAc (-(s.trail.getD s.head 0)) (s.watch (-(s.trail.getD s.head 0))) [] { s with head := s.head + 1 }
   else ZAG f (ZAc (-(s.trail.getD s.head 0)) (s.watch (-(s.trail.getD s.head 0))) [] { s with head := s.head + 1 }).1
  else (s, none)
theorem prop_ok {V : Nat} : ∀ (f : Nat) (s : SS), (Inv V s s.watch fun _ => False) -> V < f + s.head -> Kept s (ZAG f s).1 /\
  ((ZAG f s).2 = none -> (Inv V (ZAG f s).1 (ZAG f s).1.watch fun _ => False) /\ (ZAG f s).1.head = (ZAG f s).1.trail.length) /\ ∀ k, (ZAG f s).2 = some k -> CInv V (ZAG f s).1 k
 | 0, s, h, hf => by
  have := trail_len h.trng h.tdis
  have := h.hl
  omega
 | f + 1, s, h, hf => by
  by_cases hh : s.head < s.trail.length
  ·have hw : s.trail[s.head]? = some (- -(s.trail.getD s.head 0)) := by
    rw [Int.neg_neg, List.getD_eq_getElem?_getD, List.getElem?_eq_getElem hh, Option.getD_some]
   have e : ZAG (f + 1) s = if (ZAc (-(s.trail.getD s.head 0)) (s.watch (-(s.trail.getD s.head 0))) [] { s with head := s.head + 1 }).2.isSome then ZAc (-(s.trail.getD s.head 0)) (s.watch (-(s.trail.getD s.head 0))) [] { s with head := s.head + 1 }
     else ZAG f (ZAc (-(s.trail.getD s.head 0)) (s.watch (-(s.trail.getD s.head 0))) [] { s with head := s.head + 1 }).1 := if_pos hh
   rw [e]
   generalize -(s.trail.getD s.head 0) = w at *
   obtain ⟨k1, k2, k3⟩ := visits_ok _ _ _ (h.start hw)
   generalize ZAc w (s.watch w) [] { s with head := s.head + 1 } = v at *
   have hk : Kept s v.1 := ⟨k1.same, k1.beg, k1.dead, k1.rea, k1.trail, by rw [k1.head]; exact Nat.le_succ _⟩
   cases hv : v.2 with
   | some k =>
    rw [if_pos (by rfl), hv]
    exact ⟨hk, (fun q => by cases q), fun j q => by cases q; exact k3 k hv⟩
   | none =>
    rw [if_neg (by decide)]
    obtain ⟨m1, m2, m3⟩ := prop_ok f v.1 (k2 hv) (by rw [k1.head]; show V < f + (s.head + 1); omega)
    exact ⟨hk.trans m1, m2, m3⟩
  ·have e : ZAG (f + 1) s = (s, none) := if_neg hh
   rw [e]
   have := h.hl
   exact ⟨Kept.refl s, fun _ => ⟨h, by show s.head = s.trail.length; omega⟩, fun k q => by cases q⟩
def Zz (s : SS) (l : Nat) : SS :=
 if s.begins.length ≤ l then s
 else { s with
  val := fun x => if x ∈ s.trail.drop (s.begins.getD l 0) then false else s.val x
  lev := fun v => if v ∈ (s.trail.drop (s.begins.getD l 0)).map Int.natAbs then 0 else s.lev v
  rea := fun v => if v ∈ (s.trail.drop (s.begins.getD l 0)).map Int.natAbs then none else s.rea v
  trail := s.trail.take (s.begins.getD l 0)
  begins := s.begins.take l
  head := min s.head (s.begins.getD l 0) }
theorem Inv.back {V : Nat} {s : SS} {E : Nat -> Prop} (h : Inv V s s.watch E) (hE : ∀ b ∈ s.begins, (∃ k, E k) -> b < s.head) {l : Nat} (hl : l < s.begins.length) :
  (Inv V (Zz s l) (Zz s l).watch fun _ => False) /\ (Zz s l).head = (Zz s l).trail.length /\ (Zz s l).trail = s.trail.take s.begins[l] /\ (Zz s l).begins = s.begins.take l /\ (Zz s l).list = s.list /\ (Zz s l).dead = s.dead /\ (Zz s l).watch = s.watch /\
   (∀ x ∈ s.trail, s.lev x.natAbs ≤ l -> x ∈ (Zz s l).trail /\ (Zz s l).lev x.natAbs = s.lev x.natAbs) /\ ∀ x ∈ s.trail, l < s.lev x.natAbs -> ∀ y ∈ (Zz s l).trail, y.natAbs ≠ x.natAbs := by
 have hg : s.begins.getD l 0 = s.begins[l] := by rw [List.getD_eq_getElem?_getD, List.getElem?_eq_getElem hl, Option.getD_some]
 have hbm : s.begins[l] ∈ s.begins := List.getElem_mem hl
 have hb1 := h.bh _ hbm
 have hb2 := h.hl
 generalize hn : s.begins[l] = n at *
 have e : Zz s l = { s with
   val := fun x => if x ∈ s.trail.drop n then false else s.val x
   lev := fun v => if v ∈ (s.trail.drop n).map Int.natAbs then 0 else s.lev v
   rea := fun v => if v ∈ (s.trail.drop n).map Int.natAbs then none else s.rea v
   trail := s.trail.take n
   begins := s.begins.take l
   head := min s.head n } := by
  unfold Zz
  rw [if_neg (by omega), hg]
 have hat : ∀ p x, (s.trail.take n)[p]? = some x -> s.trail[p]? = some x /\ p < n := fun p x ex => by
  have hp := (List.getElem?_eq_some_iff.1 ex).1
  rw [List.length_take] at hp
  rw [List.getElem?_take_of_lt (by omega)] at ex
  exact ⟨ex, by omega⟩
 have hdis : ∀ x ∈ s.trail.take n, ∀ y ∈ s.trail.drop n, x.natAbs ≠ y.natAbs := by
  have := h.tdis
  rw [<- List.take_append_drop n s.trail] at this
  exact (List.pairwise_append.1 this).2.2
 have hin : ∀ x ∈ s.trail.take n, x.natAbs ∉ (s.trail.drop n).map Int.natAbs := fun x hx q => by
  obtain ⟨y, hy, hxy⟩ := List.mem_map.1 q
  exact hdis x hx y hy hxy.symm
 have hsplit : ∀ x ∈ s.trail, s.lev x.natAbs ≤ l /\ x ∈ s.trail.take n \/ l < s.lev x.natAbs /\ x ∈ s.trail.drop n := fun x hx => by
  obtain ⟨p, hp⟩ := ZBy.1 hx
  have hlv := h.lev p x hp
  by_cases hpn : p < n
  ·exact .inl ⟨by rw [hlv]; exact ZOD h.bs hl (by omega), Z2.2 ⟨p, hpn, hp⟩⟩
  ·refine .inr ⟨by rw [hlv]; exact ZMg h.bs hl (by omega), ?_⟩
   refine ZBy.2 ⟨p - n, ?_⟩
   rw [List.getElem?_drop, show n + (p - n) = p by omega]
   exact hp
 have hlk : ∀ x ∈ s.trail.take n, (if x.natAbs ∈ (s.trail.drop n).map Int.natAbs then 0 else s.lev x.natAbs) = s.lev x.natAbs := fun x hx => if_neg (hin x hx)
 have hlow : ∀ x ∈ s.trail.take n, s.lev x.natAbs ≤ l := fun x hx => by
  rcases hsplit x (List.mem_of_mem_take hx) with q | q
  ·exact q.1
  ·exact absurd rfl (hdis x hx x q.2)
 rw [e]
 refine ⟨⟨⟨h.rng, h.dis, fun x hx => h.trng x (List.mem_of_mem_take hx), List.Pairwise.sublist (List.take_sublist _ _) h.tdis, fun x => ?_, List.Pairwise.sublist (List.take_sublist _ _) h.bs, fun b hb => ?_, ?_, fun p x ex => ?_, fun v hv => ?_, fun p x ex r hr => ?_, fun p x ex hr => ?_, h.wok, h.wmem, h.wnd, fun hd a ha => ?_, h.emp⟩, fun k a b r ek q hq _ => ?_⟩, ?_, rfl, rfl, rfl, rfl, rfl, fun x hx hx2 => ?_, fun x hx hx2 y hy => ?_⟩
 ·show (if x ∈ s.trail.drop n then false else s.val x) = true ↔ x ∈ s.trail.take n
  by_cases q : x ∈ s.trail.drop n
  ·rw [if_pos q]
   exact ⟨(fun q => by cases q), fun q1 => absurd rfl (hdis x q1 x q)⟩
  ·rw [if_neg q, h.val]
   constructor
   ·intro q1
    rcases hsplit x q1 with q2 | q2
    ·exact q2.2
    ·exact absurd q2.2 q
   ·exact List.mem_of_mem_take
 ·show b ≤ min s.head n
  have h1 := (ZCT h.bs hl).1 b hb
  rw [hn] at h1
  have h2 := h.bh b (List.mem_of_mem_take hb)
  omega
 ·show min s.head n ≤ (s.trail.take n).length
  rw [List.length_take]
  omega
 ·obtain ⟨e1, e2⟩ := hat p x ex
  show (if x.natAbs ∈ (s.trail.drop n).map Int.natAbs then 0 else s.lev x.natAbs) = lvp (s.begins.take l) p
  rw [hlk x (List.mem_of_getElem? ex), h.lev p x e1, ZF7 h.bs hl (by omega)]
 ·show (if v ∈ (s.trail.drop n).map Int.natAbs then none else s.rea v) = none /\ (if v ∈ (s.trail.drop n).map Int.natAbs then 0 else s.lev v) = 0
  by_cases q : v ∈ (s.trail.drop n).map Int.natAbs
  ·rw [if_pos q, if_pos q]; exact ⟨rfl, rfl⟩
  ·rw [if_neg q, if_neg q]
   refine h.un v fun x hx hxv => ?_
   rcases hsplit x hx with q2 | q2
   ·exact hv x q2.2 hxv
   ·exact q (List.mem_map.2 ⟨x, q2.2, hxv⟩)
 ·obtain ⟨e1, e2⟩ := hat p x ex
  have hr' : s.rea x.natAbs = some r := by
   have := hin x (List.mem_of_getElem? ex)
   exact (if_neg this).symm.trans hr
  obtain ⟨c, c1, c2, c3⟩ := h.rea p x e1 r hr'
  refine ⟨c, c1, c2, fun y hy hne => ?_⟩
  show -y ∈ (s.trail.take n).take p
  rw [List.take_take, Nat.min_eq_left (Nat.le_of_lt e2)]
  exact c3 y hy hne
 ·obtain ⟨e1, e2⟩ := hat p x ex
  have hr' : s.rea x.natAbs = none := by
   have := hin x (List.mem_of_getElem? ex)
   exact (if_neg this).symm.trans hr
  have hm := h.dec p x e1 hr'
  show p ∈ s.begins.take l
  rw [<- List.take_append_drop l s.begins] at hm
  rcases List.mem_append.1 hm with hm | hm
  ·exact hm
  ·have := (ZCT h.bs hl).2 p hm
   omega
 ·obtain ⟨g1, g2⟩ := h.unit hd a ha
  rcases hsplit a g1 with q | q
  ·exact ⟨q.2, by show (if a.natAbs ∈ (s.trail.drop n).map Int.natAbs then 0 else s.lev a.natAbs) = 0; rw [hlk a q.2]; exact g2⟩
  ·omega
 ·have hq' : q ≤ min s.head n := hq
  have hq1 : (s.trail.take n).take q = s.trail.take q := by rw [List.take_take, Nat.min_eq_left (by omega)]
  have h2 := h.two k a b r ek q (by omega) fun q2 => by
   have := hE _ hbm ⟨k, q2⟩
   omega
  have hup : ∀ x y : Int, -x ∈ s.trail.take q -> y ∈ s.trail /\ s.lev y.natAbs ≤ s.lev x.natAbs -> y ∈ s.trail.take n /\ (if y.natAbs ∈ (s.trail.drop n).map Int.natAbs then 0 else s.lev y.natAbs) ≤ (if x.natAbs ∈ (s.trail.drop n).map Int.natAbs then 0 else s.lev x.natAbs) := fun x y q1 ⟨q2, q3⟩ => by
   have hx1 : -x ∈ s.trail.take n := by
    obtain ⟨p, p1, p2⟩ := Z2.1 q1
    exact Z2.2 ⟨p, by omega, p2⟩
   have hx2 := hlow _ hx1
   have hx3 := hlk _ hx1
   rw [Int.natAbs_neg] at hx2 hx3
   have hy : y ∈ s.trail.take n := by
    rcases hsplit y q2 with q4 | q4
    ·exact q4.2
    ·omega
   refine ⟨hy, ?_⟩
   rw [hlk y hy, hx3]
   exact q3
  show (-a ∈ (s.trail.take n).take q -> _) /\ (-b ∈ (s.trail.take n).take q -> _)
  rw [hq1]
  exact ⟨fun q1 => hup a b q1 (h2.1 q1), fun q1 => hup b a q1 (h2.2 q1)⟩
 ·show min s.head n = (s.trail.take n).length
  rw [List.length_take]
  omega
 ·rcases hsplit x hx with q | q
  ·exact ⟨q.2, hlk x q.2⟩
  ·omega
 ·rcases hsplit x hx with q | q
  ·omega
  ·exact hdis y hy x q.2
end
end Go.Proofs.YtjmignmnlpamjaaGreat.S43
