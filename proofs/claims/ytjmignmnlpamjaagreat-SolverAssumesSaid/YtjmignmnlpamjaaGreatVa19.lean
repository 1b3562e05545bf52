/- Part 19: walks by contracts, and plain laws. -/
import Derived.Test.YtjmignmnlpamjaaGreatVa18
set_option linter.unusedVariables false
set_option linter.unusedSimpArgs false
set_option linter.unusedSectionVars false
set_option maxRecDepth 100000
set_option maxHeartbeats 4000000
namespace Go.Proofs.YtjmignmnlpamjaaGreat
section
open Go.RowKit
def Zd : List (List Int) -> List Int -> Int
 | [], _ => 0
 | c :: l, a => if Zx c a = true then Zd l a else match c.find? fun x => !ZCS a (wrap64 (-x)) with
  | some x => x
  | none => Zd l a
def Zu : Nat -> List (List Int) -> List Int -> Option (List Int)
 | 0, _, _ => none
 | n + 1, l, a =>
  if 0 ≤ (ZAg l a).2 then none
  else if Zd l (ZAg l a).1 = 0 then some (ZAg l a).1
  else match Zu n l ((ZAg l a).1 ++ [Zd l (ZAg l a).1]) with
   | some o => some o
   | none => Zu n l ((ZAg l a).1 ++ [wrap64 (-Zd l (ZAg l a).1)])
structure Lits (V : Nat) (a : List Int) : Prop where
 rng : ∀ x ∈ a, x ≠ 0 /\ x.natAbs ≤ V
 cons : ∀ x ∈ a, -x ∉ a
theorem ZC4 {V : Nat} (hV : V ≤ 4096) {x : Int} (h : x.natAbs ≤ V) : wrap64 (-x) = -x := by
 unfold wrap64
 omega
theorem Der.cut {l : List (List Int)} {a b : Int -> Prop} (h : ∀ x, b x -> Der l a x) {x : Int} (k : Der l b x) : Der l a x := by
 induction k with
 | base q => exact h _ q
 | step h1 h2 _ ih => exact .step h1 h2 ih
theorem Lits.snoc {V : Nat} {a : List Int} (h : Lits V a) {x : Int} (hx : x ≠ 0 /\ x.natAbs ≤ V) (hn : -x ∉ a) : Lits V (a ++ [x]) where
 rng := fun y hy => by
  rcases List.mem_append.1 hy with hy | hy
  ·exact h.rng y hy
  ·rw [List.mem_singleton.1 hy]; exact hx
 cons := fun y hy q => by
  rcases List.mem_append.1 hy with hy | hy
  ·rcases List.mem_append.1 q with q | q
   ·exact h.cons y hy q
   ·have := List.mem_singleton.1 q
    exact hn (by rw [show -x = y by omega]; exact hy)
  ·have e := List.mem_singleton.1 hy
   subst e
   rcases List.mem_append.1 q with q | q
   ·exact hn q
   ·have := List.mem_singleton.1 q
    omega
section
variable {V : Nat} (hV : V ≤ 4096) {l : List (List Int)} (hl : WfL V l)
include hV hl
theorem ZDH : ∀ (n : Nat) (b : List Int), ZDC l b ≤ n -> Lits V b -> ∃ all, ZAg l b = (all, ZBr (ZAK 0 l all)) /\ (∀ x ∈ b, x ∈ all) /\ Lits V all /\ (∀ x ∈ all, Der l (· ∈ b) x) /\ ∀ i x, ZAK 0 l all ≠ some (i, [x]) := by
 intro n
 induction n with
 | zero =>
  intro b hn hb
  have h1 : ∀ i x, ZAK 0 l b ≠ some (i, [x]) := fun i x q => by have := ZBF q; omega
  exact ⟨b, ZBj h1, fun _ q => q, hb, fun _ q => .base q, h1⟩
 | succ n ih =>
  intro b hn hb
  by_cases h1 : ∃ i x, ZAK 0 l b = some (i, [x])
  ·obtain ⟨i, x, hs⟩ := h1
   obtain ⟨_, _, c, hc, ht, ho, _⟩ := ZAh hs
   have hxw : x ∈ ZN c b := by rw [<- ho]; simp
   obtain ⟨hxc, hxn⟩ := Z5.1 hxw
   have hxr := (hl c hc).rng x hxc
   rw [ZC4 hV hxr.2] at hxn
   have hb' := hb.snoc hxr hxn
   have hlt := ZBF hs
   obtain ⟨all, a1, a2, a3, a4, a5⟩ := ih (b ++ [x]) (by omega) hb'
   refine ⟨all, by rw [ZCU hs]; exact a1, fun y hy => a2 y (List.mem_append_left _ hy), a3, fun y hy => (a4 y hy).cut fun z hz => ?_, a5⟩
   rcases List.mem_append.1 hz with hz | hz
   ·exact .base hz
   ·rw [List.mem_singleton.1 hz]
    refine .step hc hxc fun y hy hne => ?_
    have hyr := (hl c hc).rng y hy
    have : ¬ y ∈ ZN c b := fun q => hne (by rw [<- ho] at q; exact List.mem_singleton.1 q)
    refine .base (Classical.byContradiction fun q => this (Z5.2 ⟨hy, ?_⟩))
    rw [ZC4 hV hyr.2]; exact q
  ·have h2 : ∀ i x, ZAK 0 l b ≠ some (i, [x]) := fun i x q => h1 ⟨i, x, q⟩
   exact ⟨b, ZBj h2, fun _ q => q, hb, fun _ q => .base q, h2⟩
omit hV in
theorem ZEd {a : List Int} (hs : ZAK 0 l a = none) : ∀ k : List (List Int), (∀ c ∈ k, c ∈ l) -> Zd k a = 0 -> ∀ c ∈ k, Zx c a = true
 | [], _, _, c, hc => by cases hc
 | d :: k, hk, h0, c, hc => by
  unfold Zd at h0
  by_cases hd : Zx d a = true
  ·rw [if_pos hd] at h0
   rcases List.mem_cons.1 hc with rfl | hc
   ·exact hd
   ·exact ZEd hs k (fun e he => hk e (by simp [he])) h0 c hc
  ·exfalso
   rw [if_neg hd] at h0
   have hdl := hk d (by simp)
   have h2 := (ZCO hs d hdl).resolve_left hd
   obtain ⟨x, hx⟩ : ∃ x, x ∈ ZN d a := List.exists_mem_of_length_pos (by omega)
   obtain ⟨x1, x2⟩ := Z5.1 hx
   cases hf : d.find? fun x => !ZCS a (wrap64 (-x)) with
   | none =>
    have := List.find?_eq_none.1 hf x x1
    have hh : ZCS a (wrap64 (-x)) = false := by
     cases q : ZCS a (wrap64 (-x))
     ·rfl
     ·exact absurd (ZA4.1 q) x2
    rw [hh] at this
    exact this rfl
   | some y =>
    rw [hf] at h0
    have hy := List.mem_of_find?_eq_some hf
    exact ((hl d hdl).rng y hy).1 h0
omit hV hl in
theorem ZC6 {a : List Int} : ∀ k : List (List Int), Zd k a ≠ 0 -> ∃ c ∈ k, Zd k a ∈ c /\ Zx c a = false /\ ZCS a (wrap64 (-Zd k a)) = false
 | [], h => absurd rfl h
 | d :: k, h => by
  have e : Zd (d :: k) a = if Zx d a = true then Zd k a else match d.find? fun x => !ZCS a (wrap64 (-x)) with
   | some x => x
   | none => Zd k a := rfl
  by_cases hd : Zx d a = true
  ·rw [if_pos hd] at e
   rw [e] at h ⊢
   obtain ⟨c, c1, c2⟩ := ZC6 k h
   exact ⟨c, by simp [c1], c2⟩
  ·rw [if_neg hd] at e
   cases hf : d.find? fun x => !ZCS a (wrap64 (-x)) with
   | none =>
    rw [hf] at e
    have e' : Zd (d :: k) a = Zd k a := e
    rw [e'] at h ⊢
    obtain ⟨c, c1, c2⟩ := ZC6 k h
    exact ⟨c, by simp [c1], c2⟩
   | some y =>
    rw [hf] at e
    have e' : Zd (d :: k) a = y := e
    rw [e']
    have := List.find?_some hf
    exact ⟨d, by simp, List.mem_of_find?_eq_some hf, by simpa using hd, by simpa using this⟩
theorem ZDj {a : List Int} (h : Zd l a ≠ 0) : (Zd l a ≠ 0 /\ (Zd l a).natAbs ≤ V) /\ Zd l a ∉ a /\ -Zd l a ∉ a := by
 obtain ⟨c, c1, c2, c3, c4⟩ := ZC6 l h
 have hr := (hl c c1).rng _ c2
 rw [ZC4 hV hr.2] at c4
 refine ⟨hr, fun q => ?_, fun q => ?_⟩
 ·rw [Zn.2 ⟨_, c2, q⟩] at c3; cases c3
 ·rw [ZA4.2 q] at c4; cases c4
def ZGR (V : Nat) (a : List Int) : Nat := ((List.range V).filter fun i : Nat => !(decide (((i : Int) + 1) ∈ a) || decide (-((i : Int) + 1) ∈ a))).length
omit hV hl in
theorem ZKK {α : Type} {p q : α -> Bool} (h : ∀ x, q x = true -> p x = true) : ∀ l : List α, (l.filter q).length ≤ (l.filter p).length
 | [] => Nat.le_refl _
 | x :: l => by
  have ih := ZKK h l
  rw [List.filter_cons, List.filter_cons]
  by_cases h1 : q x = true
  ·rw [if_pos h1, if_pos (h x h1), List.length_cons, List.length_cons]; omega
  ·rw [if_neg h1]
   split
   ·rw [List.length_cons]; omega
   ·exact ih
omit hV hl in
theorem ZIS {V : Nat} {a b : List Int} (h : ∀ x ∈ a, x ∈ b) : ZGR V b ≤ ZGR V a := by
 unfold ZGR
 refine ZKK (fun i hi => ?_) _
 simp only [Bool.not_eq_true', Bool.or_eq_false_iff, decide_eq_false_iff_not] at hi ⊢
 exact ⟨fun q => hi.1 (h _ q), fun q => hi.2 (h _ q)⟩
omit hV hl in
theorem ZMi {V : Nat} {a : List Int} {x : Int} (hx : x ≠ 0 /\ x.natAbs ≤ V) (h1 : x ∉ a) (h2 : -x ∉ a) : ZGR V (a ++ [x]) < ZGR V a /\ ZGR V (a ++ [-x]) < ZGR V a := by
 have key : ∀ y : Int, (y = x \/ y = -x) -> ZGR V (a ++ [y]) < ZGR V a := fun y hy => by
  unfold ZGR
  refine ZBY (y := (x.natAbs - 1 : Nat)) (fun i hi => ?_) (List.mem_range.2 (by have := hx.2; have := hx.1; omega)) ?_ ?_
  ·simp only [Bool.not_eq_true', Bool.or_eq_false_iff, decide_eq_false_iff_not] at hi ⊢
   exact ⟨fun q => hi.1 (List.mem_append_left _ q), fun q => hi.2 (List.mem_append_left _ q)⟩
  ·simp only [Bool.not_eq_true', Bool.or_eq_false_iff, decide_eq_false_iff_not]
   rcases Int.natAbs_eq x with e | e
   ·rw [show ((x.natAbs - 1 : Nat) : Int) + 1 = x by omega]; exact ⟨h1, h2⟩
   ·rw [show ((x.natAbs - 1 : Nat) : Int) + 1 = -x by omega, Int.neg_neg]; exact ⟨h2, h1⟩
  ·simp only [Bool.not_eq_false', Bool.or_eq_true_iff, decide_eq_true_eq]
   rcases Int.natAbs_eq y with e | e
   ·left; exact List.mem_append_right _ (by rw [show ((x.natAbs - 1 : Nat) : Int) + 1 = y by omega]; simp)
   ·right; exact List.mem_append_right _ (by rw [show -(((x.natAbs - 1 : Nat) : Int) + 1) = y by omega]; simp)
 exact ⟨key x (.inl rfl), key (-x) (.inr rfl)⟩
theorem ZDG : ∀ (n : Nat) (a o : List Int), Lits V a -> Zu n l a = some o -> Lits V o /\ (∀ x ∈ a, x ∈ o) /\ ∀ c ∈ l, Zx c o = true
 | 0, _, _, _, h => by cases h
 | n + 1, a, o, ha, h => by
  obtain ⟨all, u1, u2, u3, u4, u5⟩ := ZDH hV hl _ a (Nat.le_refl _) ha
  unfold Zu at h
  rw [u1] at h
  simp only at h
  by_cases hc : 0 ≤ ZBr (ZAK 0 l all)
  ·rw [if_pos hc] at h; cases h
  ·rw [if_neg hc] at h
   have hs : ZAK 0 l all = none := by
    cases q : ZAK 0 l all with
    | none => rfl
    | some p => rw [q] at hc; exact absurd (Int.natCast_nonneg p.1) hc
   by_cases hb : Zd l all = 0
   ·rw [if_pos hb] at h
    cases h
    exact ⟨u3, u2, ZEd hl hs l (fun _ q => q) hb⟩
   ·rw [if_neg hb] at h
    obtain ⟨b1, b2, b3⟩ := ZDj hV hl hb
    rw [ZC4 hV b1.2] at h
    cases h1 : Zu n l (all ++ [Zd l all]) with
    | some p =>
     rw [h1] at h
     cases h
     obtain ⟨g1, g2, g3⟩ := ZDG n _ _ (u3.snoc b1 b3) h1
     exact ⟨g1, fun x hx => g2 x (List.mem_append_left _ (u2 x hx)), g3⟩
    | none =>
     rw [h1] at h
     obtain ⟨g1, g2, g3⟩ := ZDG n _ _ (u3.snoc (x := -Zd l all) ⟨by omega, by rw [Int.natAbs_neg]; exact b1.2⟩ (by rw [Int.neg_neg]; exact b2)) h
     exact ⟨g1, fun x hx => g2 x (List.mem_append_left _ (u2 x hx)), g3⟩
theorem ZDF {m : List Int} (hm : Modl V m) (hs : ∀ c ∈ l, Zx c m = true) : ∀ (n : Nat) (a : List Int), Lits V a -> (∀ x ∈ a, x ∈ m) -> ZGR V a < n -> (Zu n l a).isSome = true
 | 0, _, _, _, h => absurd h (Nat.not_lt_zero _)
 | n + 1, a, ha, hsub, hn => by
  obtain ⟨all, u1, u2, u3, u4, u5⟩ := ZDH hV hl _ a (Nat.le_refl _) ha
  have hall : ∀ x ∈ all, x ∈ m := fun x hx => (u4 x hx).holds hm hs hsub
  unfold Zu
  rw [u1]
  simp only
  by_cases hc : 0 ≤ ZBr (ZAK 0 l all)
  ·exfalso
   cases q : ZAK 0 l all with
   | none => rw [q] at hc; exact absurd hc (by decide)
   | some p =>
    obtain ⟨i, o⟩ := p
    obtain ⟨_, _, c, hcl, ht, ho, hlen⟩ := ZAh q
    obtain ⟨z, z1, z2⟩ := Zn.1 (hs c hcl)
    have hzo : z ∈ ZN c all := Z5.2 ⟨z1, fun q1 => by
     rw [ZC4 hV ((hl c hcl).rng z z1).2] at q1
     exact hm.cons z z2 (hall _ q1)⟩
    rw [<- ho] at hzo
    match o, hlen, hzo with
    | [y], _, _ => exact u5 i y q
  ·rw [if_neg hc]
   by_cases hb : Zd l all = 0
   ·rw [if_pos hb]; rfl
   ·rw [if_neg hb]
    obtain ⟨b1, b2, b3⟩ := ZDj hV hl hb
    rw [ZC4 hV b1.2]
    obtain ⟨o1, o2⟩ := ZMi b1 b2 b3
    have o3 := ZIS (V := V) u2
    rcases hm.total _ b1.1 b1.2 with q | q
    ·have := ZDF hm hs n (all ++ [Zd l all]) (u3.snoc b1 b3) (fun x hx => by
      rcases List.mem_append.1 hx with hx | hx
      ·exact hall x hx
      ·rw [List.mem_singleton.1 hx]; exact q) (by omega)
     cases h1 : Zu n l (all ++ [Zd l all]) with
     | some p => rfl
     | none => rw [h1] at this; cases this
    ·cases h1 : Zu n l (all ++ [Zd l all]) with
     | some p => rfl
     | none =>
      exact ZDF hm hs n (all ++ [-Zd l all]) (u3.snoc (x := -Zd l all) ⟨by omega, by rw [Int.natAbs_neg]; exact b1.2⟩ (by rw [Int.neg_neg]; exact b2)) (fun x hx => by
       rcases List.mem_append.1 hx with hx | hx
       ·exact hall x hx
       ·rw [List.mem_singleton.1 hx]; exact q) (by omega)
end
end
section
open Go.RowKit
def ZB6 : Nat -> List (List Int) -> List Int -> List (List Int)
 | 0, l, a => if l.all (fun c => Zx c a) then [a] else []
 | n + 1, l, a => ZB6 n l (a ++ [(a.length : Int) + 1]) ++ ZB6 n l (a ++ [-((a.length : Int) + 1)])
def ZCY (l : List (List Int)) (x : Int) : List (List Int) := (l.filter fun c => !decide (x ∈ c)).map fun c => c.filter fun y => !decide (y = -x)
def ZBa (l : List (List Int)) : Bool := l.any fun c => decide (c.length = 0)
def ZF8 : Nat -> List (List Int) -> List Int -> List (List Int)
 | 0, l, a => if ZBa l = true then [] else [a]
 | n + 1, l, a => if ZBa l = true then [] else ZF8 n (ZCY l ((a.length : Int) + 1)) (a ++ [(a.length : Int) + 1]) ++ ZF8 n (ZCY l (-((a.length : Int) + 1))) (a ++ [-((a.length : Int) + 1)])
def ZDQ : Nat -> Int -> List (List Int) -> Nat
 | 0, _, l => if ZBa l = true then 0 else if l.length = 0 then 1 else 0
 | n + 1, v, l => if ZBa l = true then 0 else if l.length = 0 then 2 ^ (n + 1) else ZDQ n (v + 1) (ZCY l v) + ZDQ n (v + 1) (ZCY l (-v))
def ZFZ (l : List (List Int)) (a : List Int) : List (List Int) := (l.filter fun c => !Zx c a).map fun c => c.filter fun y => !decide (-y ∈ a)
def PosL (a : List Int) : Prop := ∀ (i : Nat) (x : Int), a[i]? = some x -> x = (i : Int) + 1 \/ x = -((i : Int) + 1)
theorem PosL.new {a : List Int} (h : PosL a) {x : Int} (hx : x = (a.length : Int) + 1 \/ x = -((a.length : Int) + 1)) : x ∉ a /\ -x ∉ a := by
 have key : ∀ y ∈ a, y.natAbs ≤ a.length := fun y hy => by
  obtain ⟨i, hi⟩ := List.mem_iff_getElem?.1 hy
  have h1 := (List.getElem?_eq_some_iff.1 hi).1
  have := h i y hi
  omega
 exact ⟨fun q => by have := key _ q; omega, fun q => by have := key _ q; omega⟩
theorem PosL.snoc {a : List Int} (h : PosL a) {x : Int} (hx : x = (a.length : Int) + 1 \/ x = -((a.length : Int) + 1)) : PosL (a ++ [x]) := fun i y e => by
 by_cases hi : i < a.length
 ·rw [List.getElem?_append_left hi] at e
  exact h i y e
 ·have h1 := (List.getElem?_eq_some_iff.1 e).1
  rw [List.length_append, List.length_singleton] at h1
  have hie : i = a.length := by omega
  subst hie
  rw [List.getElem?_append_right (Nat.le_refl _), Nat.sub_self] at e
  have : x = y := by simpa using e
  rw [<- this]; exact hx
theorem ZHD (c a : List Int) (x : Int) : Zx c (a ++ [x]) = (Zx c a || decide (x ∈ c)) := by
 rw [Bool.eq_iff_iff, Bool.or_eq_true_iff, Zn, Zn, decide_eq_true_eq]
 constructor
 ·rintro ⟨y, y1, y2⟩
  rcases List.mem_append.1 y2 with q | q
  ·exact .inl ⟨y, y1, q⟩
  ·rw [List.mem_singleton.1 q] at y1; exact .inr y1
 ·rintro (⟨y, y1, y2⟩ | q)
  ·exact ⟨y, y1, List.mem_append_left _ y2⟩
  ·exact ⟨x, q, List.mem_append_right _ (by simp)⟩
theorem ZES (l : List (List Int)) {a : List Int} {x : Int} (h2 : -x ∉ a) : ZFZ l (a ++ [x]) = ZCY (ZFZ l a) x := by
 unfold ZFZ ZCY
 rw [List.filter_map, List.map_map, List.filter_filter]
 have e : (l.filter fun c => !Zx c (a ++ [x])) = l.filter fun c => ((fun c : List Int => !decide (x ∈ c)) ∘ fun c : List Int => c.filter fun y => !decide (-y ∈ a)) c && !Zx c a := List.filter_congr fun c _ => by
  rw [ZHD]
  have : decide (x ∈ c.filter fun y => !decide (-y ∈ a)) = decide (x ∈ c) := decide_eq_decide.2 (by rw [List.mem_filter]; simp [h2])
  simp only [Function.comp_apply, this, Bool.not_or]
  exact Bool.and_comm _ _
 rw [e]
 refine List.map_congr_left fun c _ => ?_
 show (c.filter fun y => !decide (-y ∈ a ++ [x])) = (c.filter fun y => !decide (-y ∈ a)).filter fun y => !decide (y = -x)
 rw [List.filter_filter]
 refine List.filter_congr fun y _ => ?_
 rw [<- Bool.not_or]
 congr 1
 rw [Bool.eq_iff_iff, Bool.or_eq_true_iff, decide_eq_true_eq, decide_eq_true_eq, decide_eq_true_eq, List.mem_append, List.mem_singleton]
 constructor
 ·rintro (q | q)
  ·exact .inr q
  ·exact .inl (by omega)
 ·rintro (q | q)
  ·exact .inr (by omega)
  ·exact .inl q
theorem ZDO {l : List (List Int)} : ∀ (n : Nat) (a : List Int), PosL a -> (∃ c ∈ l, ∀ y ∈ c, -y ∈ a) -> ZB6 n l a = []
 | 0, a, hp, ⟨c, c1, c2⟩ => by
  unfold ZB6
  rw [if_neg]
  intro q
  obtain ⟨y, y1, y2⟩ := Zn.1 (List.all_eq_true.1 q c c1)
  have hy := c2 y y1
  obtain ⟨i, hi⟩ := List.mem_iff_getElem?.1 y2
  obtain ⟨j, hj⟩ := List.mem_iff_getElem?.1 hy
  have h1 := hp i y hi
  have h2 := hp j (-y) hj
  have hij : i = j := by omega
  subst hij
  rw [hi] at hj
  have := Option.some.inj hj
  omega
 | n + 1, a, hp, ⟨c, c1, c2⟩ => by
  unfold ZB6
  rw [ZDO n _ (hp.snoc (.inl rfl)) ⟨c, c1, fun y hy => List.mem_append_left _ (c2 y hy)⟩, ZDO n _ (hp.snoc (.inr rfl)) ⟨c, c1, fun y hy => List.mem_append_left _ (c2 y hy)⟩]
  rfl
theorem ZDS {l : List (List Int)} {a : List Int} : ZBa (ZFZ l a) = true ↔ ∃ c ∈ l, Zx c a = false /\ ∀ y ∈ c, -y ∈ a := by
 unfold ZBa ZFZ
 rw [List.any_map, List.any_eq_true]
 constructor
 ·rintro ⟨c, hc, h⟩
  obtain ⟨c1, c2⟩ := List.mem_filter.1 hc
  refine ⟨c, c1, by simpa using c2, fun y hy => ?_⟩
  have h' := List.length_eq_zero_iff.1 (of_decide_eq_true h)
  have := List.filter_eq_nil_iff.1 h' y hy
  simpa using this
 ·rintro ⟨c, c1, c2, c3⟩
  refine ⟨c, List.mem_filter.2 ⟨c1, by rw [c2]; rfl⟩, decide_eq_true (List.length_eq_zero_iff.2 (List.filter_eq_nil_iff.2 fun y hy => ?_))⟩
  simpa using c3 y hy
theorem ZH9 {l : List (List Int)} {V : Nat} (hl : ∀ c ∈ l, ∀ x ∈ c, x ≠ 0 /\ x.natAbs ≤ V) {a : List Int} (hp : PosL a) (hV : a.length = V) (he : ZBa (ZFZ l a) = false) : l.all (fun c => Zx c a) = true := List.all_eq_true.2 fun c hc => Classical.byContradiction fun q => by
 have : ZBa (ZFZ l a) = true := ZDS.2 ⟨c, hc, by simpa using q, fun y hy => ?_⟩
 ·rw [this] at he; cases he
 ·have hr := hl c hc y hy
  have hi : y.natAbs - 1 < a.length := by omega
  have h1 := hp _ _ (List.getElem?_eq_getElem hi)
  have hm := List.getElem_mem hi
  rcases Int.natAbs_eq y with e | e
  ·rcases h1 with h1 | h1
   ·exfalso
    exact q (Zn.2 ⟨y, hy, by rw [show y = a[y.natAbs - 1] by omega]; exact hm⟩)
   ·rw [show -y = a[y.natAbs - 1] by omega]; exact hm
  ·rcases h1 with h1 | h1
   ·rw [show -y = a[y.natAbs - 1] by omega]; exact hm
   ·exfalso
    exact q (Zn.2 ⟨y, hy, by rw [show y = a[y.natAbs - 1] by omega]; exact hm⟩)
theorem ZHh {l : List (List Int)} {V : Nat} (hl : ∀ c ∈ l, ∀ x ∈ c, x ≠ 0 /\ x.natAbs ≤ V) : ∀ (n : Nat) (a : List Int), PosL a -> a.length + n = V -> ZF8 n (ZFZ l a) a = ZB6 n l a
 | 0, a, hp, hV => by
  unfold ZF8 ZB6
  by_cases he : ZBa (ZFZ l a) = true
  ·obtain ⟨c, c1, c2, _⟩ := ZDS.1 he
   rw [if_pos he, if_neg]
   intro q
   rw [List.all_eq_true.1 q c c1] at c2
   cases c2
  ·rw [if_neg he, if_pos (ZH9 hl hp (by omega) (by simpa using he))]
 | n + 1, a, hp, hV => by
  unfold ZF8
  by_cases he : ZBa (ZFZ l a) = true
  ·obtain ⟨c, c1, _, c3⟩ := ZDS.1 he
   rw [if_pos he, ZDO (n + 1) a hp ⟨c, c1, c3⟩]
  ·rw [if_neg he, <- ZES l (hp.new (.inl rfl)).2, <- ZES l (hp.new (.inr rfl)).2, ZHh hl n _ (hp.snoc (.inl rfl)) (by rw [List.length_append, List.length_singleton]; omega), ZHh hl n _ (hp.snoc (.inr rfl)) (by rw [List.length_append, List.length_singleton]; omega)]
   rfl
theorem ZKv (l : List (List Int)) : ZFZ l [] = l := by
 unfold ZFZ
 have e1 : (l.filter fun c => !Zx c []) = l := List.filter_eq_self.2 fun c _ => by
  have : Zx c [] = false := by
   cases q : Zx c []
   ·rfl
   ·obtain ⟨_, _, h⟩ := Zn.1 q; cases h
  rw [this]; rfl
 rw [e1]
 refine (List.map_congr_left fun c _ => ?_).trans (List.map_id l)
 exact List.filter_eq_self.2 fun y _ => by simp
theorem ZHi {l : List (List Int)} {V : Nat} (hl : ∀ c ∈ l, ∀ x ∈ c, x ≠ 0 /\ x.natAbs ≤ V) : ZF8 V l [] = ZB6 V l [] := by
 have := ZHh hl V [] (fun i x e => by simp at e) (by simp)
 rwa [ZKv] at this
theorem ZHT {l : List (List Int)} : ∀ (n : Nat) (a : List Int), (∀ c ∈ l, Zx c a = true) -> (ZB6 n l a).length = 2 ^ n
 | 0, a, h => by
  unfold ZB6
  rw [if_pos (List.all_eq_true.2 h)]; rfl
 | n + 1, a, h => by
  have hs : ∀ x : Int, ∀ c ∈ l, Zx c (a ++ [x]) = true := fun x c hc => by rw [ZHD, h c hc]; rfl
  unfold ZB6
  rw [List.length_append, ZHT n _ (hs _), ZHT n _ (hs _), Nat.pow_succ]
  omega
theorem ZHW {l : List (List Int)} {V : Nat} (hl : ∀ c ∈ l, ∀ x ∈ c, x ≠ 0 /\ x.natAbs ≤ V) : ∀ (n : Nat) (a : List Int), PosL a -> a.length + n = V -> ZDQ n ((a.length : Int) + 1) (ZFZ l a) = (ZB6 n l a).length
 | n, a, hp, hV => by
  by_cases he : ZBa (ZFZ l a) = true
  ·obtain ⟨c, c1, _, c3⟩ := ZDS.1 he
   rw [ZDO n a hp ⟨c, c1, c3⟩]
   cases n <;> (unfold ZDQ; rw [if_pos he]; rfl)
  ·by_cases h0 : (ZFZ l a).length = 0
   ·have hall : ∀ c ∈ l, Zx c a = true := fun c hc => Classical.byContradiction fun q => by
     have h1 := List.length_eq_zero_iff.1 h0
     unfold ZFZ at h1
     have h2 := List.map_eq_nil_iff.1 h1
     have := List.filter_eq_nil_iff.1 h2 c hc
     simp at this
     exact q this
    rw [ZHT n a hall]
    cases n <;> (unfold ZDQ; rw [if_neg he, if_pos h0])
   ·cases n with
    | zero =>
     exfalso
     have hall := ZH9 hl hp (by omega) (by simpa using he)
     refine h0 ?_
     unfold ZFZ
     rw [List.length_map, List.filter_eq_nil_iff.2 fun c hc => by rw [List.all_eq_true.1 hall c hc]; decide]
     rfl
    | succ n =>
     have e : ZDQ (n + 1) ((a.length : Int) + 1) (ZFZ l a) = ZDQ n ((a.length : Int) + 1 + 1) (ZCY (ZFZ l a) ((a.length : Int) + 1)) + ZDQ n ((a.length : Int) + 1 + 1) (ZCY (ZFZ l a) (-((a.length : Int) + 1))) := by
      conv => lhs; unfold ZDQ
      rw [if_neg he, if_neg h0]
     have h1 := ZHW hl n (a ++ [(a.length : Int) + 1]) (hp.snoc (.inl rfl)) (by rw [List.length_append, List.length_singleton]; omega)
     have h2 := ZHW hl n (a ++ [-((a.length : Int) + 1)]) (hp.snoc (.inr rfl)) (by rw [List.length_append, List.length_singleton]; omega)
     rw [List.length_append, List.length_singleton, ZES l (hp.new (.inl rfl)).2] at h1
     rw [List.length_append, List.length_singleton, ZES l (hp.new (.inr rfl)).2] at h2
     have hc : ((a.length + 1 : Nat) : Int) + 1 = (a.length : Int) + 1 + 1 := by omega
     rw [hc] at h1 h2
     rw [e, h1, h2]
     conv => rhs; unfold ZB6
     rw [List.length_append]
theorem ZIv {l : List (List Int)} {V : Nat} (hl : ∀ c ∈ l, ∀ x ∈ c, x ≠ 0 /\ x.natAbs ≤ V) : ZDQ V 1 l = (ZB6 V l []).length := by
 have := ZHW hl V [] (fun i x e => by simp at e) (by simp)
 rw [ZKv] at this
 exact this
end
section
open Go.RowKit
theorem ZHS {l : List (List Int)} {m : List Int} : ∀ (n : Nat) (a : List Int), PosL a -> (m ∈ ZB6 n l a ↔ (∃ t, m = a ++ t) /\ m.length = a.length + n /\ PosL m /\ ∀ c ∈ l, Zx c m = true)
 | 0, a, hp => by
  unfold ZB6
  by_cases h : l.all (fun c => Zx c a) = true
  ·rw [if_pos h, List.mem_singleton]
   constructor
   ·rintro rfl
    exact ⟨⟨[], (List.append_nil _).symm⟩, rfl, hp, List.all_eq_true.1 h⟩
   ·rintro ⟨⟨t, rfl⟩, h2, _⟩
    rw [List.length_append] at h2
    have : t = [] := List.length_eq_zero_iff.1 (by omega)
    rw [this, List.append_nil]
  ·rw [if_neg h]
   constructor
   ·intro q; cases q
   ·rintro ⟨⟨t, rfl⟩, h2, _, h4⟩
    rw [List.length_append] at h2
    have : t = [] := List.length_eq_zero_iff.1 (by omega)
    rw [this, List.append_nil] at h4
    exact absurd (List.all_eq_true.2 h4) h
 | n + 1, a, hp => by
  unfold ZB6
  rw [List.mem_append, ZHS n _ (hp.snoc (.inl rfl)), ZHS n _ (hp.snoc (.inr rfl))]
  constructor
  ·rintro (⟨⟨t, rfl⟩, h2, h3, h4⟩ | ⟨⟨t, rfl⟩, h2, h3, h4⟩)
   ·exact ⟨⟨_ :: t, by rw [List.append_assoc]; rfl⟩, by rw [h2, List.length_append, List.length_singleton]; omega, h3, h4⟩
   ·exact ⟨⟨_ :: t, by rw [List.append_assoc]; rfl⟩, by rw [h2, List.length_append, List.length_singleton]; omega, h3, h4⟩
  ·rintro ⟨⟨t, rfl⟩, h2, h3, h4⟩
   rw [List.length_append] at h2
   match t, h2, h3, h4 with
   | [], h2, _, _ => simp at h2
   | x :: t, h2, h3, h4 =>
    have hx := h3 a.length x (by rw [List.getElem?_append_right (Nat.le_refl _), Nat.sub_self]; rfl)
    have hlen : (a ++ x :: t).length = (a ++ [x]).length + n := by
     simp only [List.length_append, List.length_cons, List.length_nil] at h2 ⊢
     omega
    rcases hx with rfl | rfl
    ·exact .inl ⟨⟨t, by rw [List.append_assoc]; rfl⟩, hlen, h3, h4⟩
    ·exact .inr ⟨⟨t, by rw [List.append_assoc]; rfl⟩, hlen, h3, h4⟩
theorem ZNh : PosL [] := fun i x e => by simp at e
theorem ZCI {l : List (List Int)} {V : Nat} {m : List Int} : m ∈ ZB6 V l [] ↔ m.length = V /\ PosL m /\ ∀ c ∈ l, Zx c m = true := by
 rw [ZHS V [] ZNh]
 constructor
 ·rintro ⟨_, h2, h3, h4⟩; exact ⟨by simpa using h2, h3, h4⟩
 ·rintro ⟨h2, h3, h4⟩; exact ⟨⟨m, rfl⟩, by simpa using h2, h3, h4⟩
theorem ZGD {V : Nat} {m : List Int} (hl : m.length = V) (hp : PosL m) : Modl V m where
 cons := fun x hx q => by
  obtain ⟨i, hi⟩ := List.mem_iff_getElem?.1 hx
  obtain ⟨j, hj⟩ := List.mem_iff_getElem?.1 q
  have h1 := hp i x hi
  have h2 := hp j (-x) hj
  have hij : i = j := by omega
  subst hij
  rw [hi] at hj
  have := Option.some.inj hj
  omega
 total := fun x hx hx2 => by
  have hi : x.natAbs - 1 < m.length := by omega
  have h1 := hp _ _ (List.getElem?_eq_getElem hi)
  have hm := List.getElem_mem hi
  rcases Int.natAbs_eq x with e | e
  ·rcases h1 with h1 | h1
   ·left; rw [show x = m[x.natAbs - 1] by omega]; exact hm
   ·right; rw [show -x = m[x.natAbs - 1] by omega]; exact hm
  ·rcases h1 with h1 | h1
   ·right; rw [show -x = m[x.natAbs - 1] by omega]; exact hm
   ·left; rw [show x = m[x.natAbs - 1] by omega]; exact hm
def ZJN (V : Nat) (a : List Int) : List Int := (List.range V).map fun i : Nat => if ((i : Int) + 1) ∈ a then (i : Int) + 1 else -((i : Int) + 1)
theorem ZK6 (V : Nat) (a : List Int) : (ZJN V a).length = V /\ PosL (ZJN V a) := by
 refine ⟨by simp [ZJN], fun i x e => ?_⟩
 unfold ZJN at e
 rw [List.getElem?_map] at e
 obtain ⟨j, hj, rfl⟩ := Option.map_eq_some_iff.1 e
 have : j = i := by
  obtain ⟨h1, h2⟩ := List.getElem?_eq_some_iff.1 hj
  simpa using h2.symm
 subst this
 split
 ·exact .inl rfl
 ·exact .inr rfl
theorem ZG7 {V : Nat} {a : List Int} (h : Lits V a) : ∀ x ∈ a, x ∈ ZJN V a := fun x hx => by
 have hr := h.rng x hx
 refine List.mem_map.2 ⟨x.natAbs - 1, List.mem_range.2 (by omega), ?_⟩
 rcases Int.natAbs_eq x with e | e
 ·rw [show ((x.natAbs - 1 : Nat) : Int) + 1 = x by omega, if_pos hx]
 ·rw [show ((x.natAbs - 1 : Nat) : Int) + 1 = -x by omega, if_neg (h.cons x hx), Int.neg_neg]
theorem ZDv {V : Nat} (hV : V ≤ 4096) {l : List (List Int)} (hl : WfL V l) {a : List Int} (ha : Lits V a) {n : Nat} (hn : ZGR V a < n) : (Zu n l a).isSome = true ↔ ∃ m ∈ ZB6 V l [], ∀ x ∈ a, x ∈ m := by
 constructor
 ·intro h
  obtain ⟨o, ho⟩ := Option.isSome_iff_exists.1 h
  obtain ⟨h1, h2, h3⟩ := ZDG hV hl n a o ha ho
  obtain ⟨s1, s2⟩ := ZK6 V o
  refine ⟨ZJN V o, ZCI.2 ⟨s1, s2, fun c hc => ?_⟩, fun x hx => ZG7 h1 x (h2 x hx)⟩
  obtain ⟨y, y1, y2⟩ := Zn.1 (h3 c hc)
  exact Zn.2 ⟨y, y1, ZG7 h1 y y2⟩
 ·rintro ⟨m, hm, hs⟩
  obtain ⟨h1, h2, h3⟩ := ZCI.1 hm
  exact ZDF hV hl (ZGD h1 h2) h3 n a ha hs hn
end
section
open Go.RowKit
theorem ZN6 {l : List (List Int)} {a : Int -> Prop} {x : Int} (h : S43.Der l a x) : Der l a x := by
 induction h with
 | base q => exact .base q
 | step h1 h2 _ ih => exact .step h1 h2 ih
theorem ZJ8 {l : List (List Int)} {a : Int -> Prop} (h : S43.Conf l a) : Conf l a := by
 obtain ⟨c, hc, h1⟩ := h
 exact ⟨c, hc, fun y hy => ZN6 (h1 y hy)⟩
theorem wf_of {V : Nat} {c o : List Int} (hp : o.Perm c) (hr : ∀ x ∈ c, x ≠ 0 /\ x.natAbs ≤ V) (hd : c.Pairwise fun x y => x.natAbs ≠ y.natAbs) (hs : o.Pairwise fun x y => x.natAbs ≤ y.natAbs) : WfC V o where
 rng := fun x hx => hr x (hp.mem_iff.1 hx)
 inc := by
  have h1 := S43.dis_perm hp hd
  exact (hs.and h1).imp fun {a b} ⟨h2, h3⟩ => by omega
theorem ZMd {V : Nat} (hV : V ≤ 4096) : ∀ (p l : List (List Int)) (i : Nat), WfL V l -> WfL V p -> (∀ (j : Nat) (c : List Int), p[j]? = some c -> Conf (l ++ p.take j) (negs c)) -> ZMc i l p = none
 | [], _, _, _, _, _ => rfl
 | c :: p, l, i, hl, hp, h => by
  have hc := hp c (by simp)
  have h0 : ZAi l c = true := (ZCh hV hl hc).2 (by
   have := h 0 c rfl
   rwa [List.take_zero, List.append_nil] at this)
  unfold ZMc
  rw [if_pos h0]
  exact ZMd hV p (l ++ [c]) (i + 1) (fun d hd => by
   rcases List.mem_append.1 hd with q | q
   ·exact hl d q
   ·rw [List.mem_singleton.1 q]; exact hc) (fun d hd => hp d (by simp [hd])) fun j d e => by
    have := h (j + 1) d e
    rwa [List.take_succ_cons, List.append_cons] at this
theorem ZJD {V : Nat} (hV : V ≤ 4096) {cls learned : List (List Int)} (hl : WfL V cls) (hp : WfL V learned) (h1 : ∀ (i : Nat) (c : List Int), learned[i]? = some c -> S43.Conf (cls ++ learned.take i) fun z => ∃ y ∈ c, z = -y) (h2 : S43.Conf (cls ++ learned) fun _ => False) :
  ZGE cls (learned ++ [[]]) = true := by
 have hn : WfC V [] := ⟨(fun x hx => by cases hx), List.Pairwise.nil⟩
 refine ZEB.2 ⟨ZMd hV _ _ 0 hl (fun d hd => ?_) fun j c e => ?_, ?_⟩
 ·rcases List.mem_append.1 hd with q | q
  ·exact hp d q
  ·rw [List.mem_singleton.1 q]; exact hn
 ·rcases S43.app_last e with ⟨q1, q2⟩ | ⟨rfl, rfl⟩
  ·rw [List.take_append_of_le_length (Nat.le_of_lt q1)]
   refine (ZJ8 (h1 j c q2)).mono (fun _ q => q) fun x => ?_
   rintro ⟨y, hy, rfl⟩
   show - -y ∈ c
   rw [Int.neg_neg]; exact hy
  ·rw [List.take_append_of_le_length (Nat.le_refl _), List.take_length]
   exact (ZJ8 h2).mono (fun _ q => q) fun x q => q.elim
 ·unfold ZDm
  rw [List.getLast?_append]
  rfl
end
section
open Go.RowKit
theorem ZN0 (l : List (List Int)) : Ze l (upI l.length) = l := by
 unfold Ze upI
 apply List.ext_getElem
 ·simp
 ·intro i h1 h2
  simp [List.getD_eq_getElem?_getD, h2]
def ZB8 (V : Nat) (l : List (List Int)) : Bool := (ZB6 V l []).isEmpty
def ZCW (V : Nat) (l : List (List Int)) : List Int := ZHm (fun ks => ZB8 V (Ze l ks)) l.length (upI l.length)
end
end Go.Proofs.YtjmignmnlpamjaaGreat
