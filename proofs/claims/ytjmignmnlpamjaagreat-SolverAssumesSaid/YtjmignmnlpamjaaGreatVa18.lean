/- Part 18: walks by contracts, and plain laws. -/
import Derived.Test.YtjmignmnlpamjaaGreatVa17
set_option linter.unusedVariables false
set_option linter.unusedSimpArgs false
set_option linter.unusedSectionVars false
set_option maxRecDepth 100000
set_option maxHeartbeats 4000000
namespace Go.Proofs.YtjmignmnlpamjaaGreat
section
open Go.RowKit

def ZBg (vals : List Int) (x : Int) : Int := if x < 0 then -(vals.getD (-x).toNat 0) else vals.getD x.toNat 0
def ZDw (vals : List Int) (x : Int) : List Int := if x < 0 then vals.set (-x).toNat (-1) else vals.set x.toNat 1
def ZA0 (vals : List Int) : Int -> List Int -> Int × Bool
 | o, [] => (o, decide (o = 0))
 | o, x :: c => if 0 < ZBg vals x \/ (ZBg vals x = 0 /\ o ≠ 0) then (0, false) else if ZBg vals x = 0 then ZA0 vals x c else ZA0 vals o c
def ZB3 : List (List Int) -> List Int -> Bool -> Option (List Int × Bool)
 | [], vals, ch => some (vals, ch)
 | c :: l, vals, ch => if (ZA0 vals 0 c).2 = true then none else if (ZA0 vals 0 c).1 ≠ 0 then ZB3 l (ZDw vals (ZA0 vals 0 c).1) true else ZB3 l vals ch
def ZCD : Nat -> List (List Int) -> List Int -> Bool
 | 0, _, _ => false
 | n + 1, l, vals => match ZB3 l vals false with
  | none => true
  | some (v, true) => ZCD n l v
  | some (_, false) => false
def ZAV (l : List (List Int)) (vals : List Int) : Bool := ZCD (vals.count 0 + 1) l vals
def ZFD (vals : List Int) : Prop := ∀ v ∈ vals, -1 ≤ v /\ v ≤ 1
def InR (m : Nat) (l : List (List Int)) : Prop := ∀ c ∈ l, ∀ x ∈ c, x.natAbs < m

theorem ZBI (vals : List Int) (x : Int) : (ZDw vals x).length = vals.length := by unfold ZDw; split <;> simp
theorem ZDx {vals : List Int} (h : ZFD vals) (x : Int) : ZFD (ZDw vals x) := by
 intro v hv
 unfold ZDw at hv
 split at hv
 ·rcases List.mem_or_eq_of_mem_set hv with h' | rfl
  ·exact h v h'
  ·omega
 ·rcases List.mem_or_eq_of_mem_set hv with h' | rfl
  ·exact h v h'
  ·omega
theorem ZDz {vals : List Int} : ∀ {c : List Int} {o : Int}, (ZA0 vals o c).1 ≠ 0 -> (ZA0 vals o c).1 = o \/ ((ZA0 vals o c).1 ∈ c /\ ZBg vals (ZA0 vals o c).1 = 0)
 | [], o, _ => .inl rfl
 | x :: c, o, h => by
  simp only [ZA0] at h ⊢
  split
  ·rename_i h1; rw [if_pos h1] at h; exact absurd rfl h
  ·rename_i h1
   rw [if_neg h1] at h
   split
   ·rename_i h2
    rw [if_pos h2] at h
    rcases ZDz h with e | ⟨e1, e2⟩
    ·exact .inr ⟨by rw [e]; simp, by rw [e]; exact h2⟩
    ·exact .inr ⟨by simp [e1], e2⟩
   ·rename_i h2
    rw [if_neg h2] at h
    rcases ZDz h with e | ⟨e1, e2⟩
    ·exact .inl e
    ·exact .inr ⟨by simp [e1], e2⟩
theorem ZHE {vals : List Int} {c : List Int} (h : (ZA0 vals 0 c).1 ≠ 0) : (ZA0 vals 0 c).1 ∈ c /\ ZBg vals (ZA0 vals 0 c).1 = 0 :=
 (ZDz h).resolve_left h
theorem ZJM {vals : List Int} {x : Int} (hx : x.natAbs < vals.length) (h : ZBg vals x = 0) : (ZDw vals x).count 0 < vals.count 0 := by
 unfold ZBg at h
 unfold ZDw
 by_cases hn : x < 0
 ·rw [if_pos hn] at h ⊢
  have hk : (-x).toNat < vals.length := by omega
  rw [List.getD_eq_getElem?_getD, List.getElem?_eq_getElem hk, Option.getD_some] at h
  have h0 : vals[(-x).toNat] = 0 := by omega
  have hm : 0 < vals.count 0 := List.count_pos_iff.2 (h0 ▸ List.getElem_mem hk)
  rw [List.count_set hk, h0]
  simp; omega
 ·rw [if_neg hn] at h ⊢
  have hk : x.toNat < vals.length := by omega
  rw [List.getD_eq_getElem?_getD, List.getElem?_eq_getElem hk, Option.getD_some] at h
  have hm : 0 < vals.count 0 := List.count_pos_iff.2 (h ▸ List.getElem_mem hk)
  rw [List.count_set hk, h]
  simp; omega
theorem ZBh : ∀ {l : List (List Int)} {vals v : List Int} {ch ch' : Bool}, InR vals.length l -> ZB3 l vals ch = some (v, ch') -> v.length = vals.length /\ v.count 0 ≤ vals.count 0 /\ (ch' = true -> ch = true \/ v.count 0 < vals.count 0) /\ (ZFD vals -> ZFD v)
 | [], vals, v, ch, ch', _, h => by
  simp only [ZB3, Option.some.injEq, Prod.mk.injEq] at h
  obtain ⟨rfl, rfl⟩ := h
  exact ⟨rfl, Nat.le_refl _, .inl, id⟩
 | c :: l, vals, v, ch, ch', hr, h => by
  simp only [ZB3] at h
  split at h
  ·cases h
  ·split at h
   ·rename_i h2
    obtain ⟨hm, hz⟩ := ZHE h2
    have hlt := ZJM (hr c (by simp) _ hm) hz
    have hr' : InR (ZDw vals (ZA0 vals 0 c).1).length l := by rw [ZBI]; exact fun d hd => hr d (by simp [hd])
    obtain ⟨e1, e2, _, e4⟩ := ZBh hr' h
    rw [ZBI] at e1
    exact ⟨e1, by omega, fun _ => .inr (by omega), fun hs => e4 (ZDx hs _)⟩
   ·exact ZBh (fun d hd => hr d (by simp [hd])) h
theorem ZD6 : ∀ {n m : Nat} {l : List (List Int)} {vals : List Int}, InR vals.length l -> vals.count 0 < n -> vals.count 0 < m -> ZCD n l vals = ZCD m l vals
 | 0, _, _, _, _, h, _ => absurd h (Nat.not_lt_zero _)
 | _ + 1, 0, _, _, _, _, h => absurd h (Nat.not_lt_zero _)
 | n + 1, m + 1, l, vals, hr, h1, h2 => by
  simp only [ZCD]
  split
  ·rfl
  ·rename_i v hp
   obtain ⟨e1, _, e3, _⟩ := ZBh hr hp
   have := (e3 rfl).resolve_left (by simp)
   exact ZD6 (by rw [e1]; exact hr) (by omega) (by omega)
  ·rfl
theorem ZB2 {l : List (List Int)} {vals : List Int} (hr : InR vals.length l) : ZAV l vals = match ZB3 l vals false with
  | none => true
  | some (v, true) => ZAV l v
  | some (_, false) => false := by
 unfold ZAV
 rw [ZCD]
 split
 ·rfl
 ·rename_i v hp
  obtain ⟨e1, _, e3, _⟩ := ZBh hr hp
  have := (e3 rfl).resolve_left (by simp)
  exact ZD6 (by rw [e1]; exact hr) (by omega) (by omega)
 ·rfl

def ZBq (m : Nat) (c : List Int) : List Int := c.foldl (fun v x => ZDw v (-x)) (List.replicate m 0)

theorem ZHu (m : Nat) (c : List Int) (x : Int) : ZBq m (c ++ [x]) = ZDw (ZBq m c) (-x) := by simp [ZBq]
theorem ZAw (m : Nat) (c : List Int) : (ZBq m c).length = m := by
 have : ∀ (c : List Int) (v : List Int), (c.foldl (fun v x => ZDw v (-x)) v).length = v.length := by
  intro c
  induction c with
  | nil => intro v; rfl
  | cons x c ih => intro v; rw [List.foldl_cons, ih, ZBI]
 unfold ZBq
 rw [this]; simp
theorem ZHA (m : Nat) (c : List Int) : ZFD (ZBq m c) := by
 have : ∀ (c : List Int) (v : List Int), ZFD v -> ZFD (c.foldl (fun v x => ZDw v (-x)) v) := by
  intro c
  induction c with
  | nil => intro v h; exact h
  | cons x c ih => intro v h; exact ih _ (ZDx h _)
 refine this _ _ (fun v hv => ?_)
 rw [List.mem_replicate] at hv
 omega

end
section
open Go.RowKit

inductive Der (l : List (List Int)) (a : Int -> Prop) : Int -> Prop
 | base {x : Int} : a x -> Der l a x
 | step {c : List Int} {x : Int} : c ∈ l -> x ∈ c -> (∀ y ∈ c, y ≠ x -> Der l a (-y)) -> Der l a x
def Conf (l : List (List Int)) (a : Int -> Prop) : Prop := ∃ c ∈ l, ∀ y ∈ c, Der l a (-y)

structure WfC (V : Nat) (c : List Int) : Prop where
 rng : ∀ x ∈ c, x ≠ 0 /\ x.natAbs ≤ V
 inc : c.Pairwise fun x y => x.natAbs < y.natAbs
abbrev WfL (V : Nat) (l : List (List Int)) : Prop := ∀ c ∈ l, WfC V c

theorem ZBU {V : Nat} {x : Int} : ZA8 (V : Int) x = true ↔ x ≠ 0 /\ x.natAbs ≤ V := by
 unfold ZA8
 rw [decide_eq_true_eq]
 omega
theorem ZGO {V : Nat} (hV : V ≤ 4096) {x : Int} (h : x.natAbs ≤ V) : ZC2 x = x.natAbs := by
 unfold ZC2 wrap64
 split <;> omega

theorem ZD5 {V : Nat} (hV : V ≤ 4096) : ∀ {c : List Int} {p : Int}, p.natAbs ≤ V -> (ZR (V : Int) (some p) c = 0 ↔ WfC V c /\ ∀ x ∈ c, p.natAbs < x.natAbs)
 | [], p, _ => by
  simp only [ZR, true_iff]
  exact ⟨⟨fun x hx => (by cases hx), List.Pairwise.nil⟩, fun x hx => (by cases hx)⟩
 | y :: c, p, hp => by
  simp only [ZR]
  by_cases hg : ZA8 (V : Int) y = true
  ·have hy := ZBU.1 hg
   rw [if_pos hg, ZGO hV hy.2, ZGO hV hp]
   by_cases hle : ((y.natAbs : Nat) : Int) ≤ (p.natAbs : Nat)
   ·rw [if_pos hle]
    constructor
    ·intro h; omega
    ·rintro ⟨_, h⟩; have := h y (by simp); omega
   ·rw [if_neg hle, ZD5 hV hy.2]
    constructor
    ·rintro ⟨h1, h2⟩
     refine ⟨⟨fun x hx => ?_, List.pairwise_cons.2 ⟨h2, h1.inc⟩⟩, fun x hx => ?_⟩
     ·rcases List.mem_cons.1 hx with rfl | hx
      ·exact hy
      ·exact h1.rng x hx
     ·rcases List.mem_cons.1 hx with rfl | hx
      ·omega
      ·have := h2 x hx; omega
    ·rintro ⟨h1, _⟩
     have h3 := List.pairwise_cons.1 h1.inc
     exact ⟨⟨fun x hx => h1.rng x (by simp [hx]), h3.2⟩, h3.1⟩
  ·rw [if_neg hg]
   constructor
   ·intro h; omega
   ·rintro ⟨h1, _⟩; exact absurd (ZBU.2 (h1.rng y (by simp))) hg

theorem ZAX {V : Nat} (hV : V ≤ 4096) : ∀ {c : List Int}, ZR (V : Int) none c = 0 ↔ WfC V c
 | [] => by
  simp only [ZR, true_iff]
  exact ⟨fun x hx => (by cases hx), List.Pairwise.nil⟩
 | y :: c => by
  simp only [ZR]
  by_cases hg : ZA8 (V : Int) y = true
  ·have hy := ZBU.1 hg
   rw [if_pos hg, ZD5 hV hy.2]
   constructor
   ·rintro ⟨h1, h2⟩
    refine ⟨fun x hx => ?_, List.pairwise_cons.2 ⟨h2, h1.inc⟩⟩
    rcases List.mem_cons.1 hx with rfl | hx
    ·exact hy
    ·exact h1.rng x hx
   ·intro h1
    have h3 := List.pairwise_cons.1 h1.inc
    exact ⟨⟨fun x hx => h1.rng x (by simp [hx]), h3.2⟩, h3.1⟩
  ·rw [if_neg hg]
   constructor
   ·intro h; omega
   ·intro h1; exact absurd (ZBU.2 (h1.rng y (by simp))) hg
theorem Zs {V : Nat} (hV : V ≤ 4096) : ∀ {l : List (List Int)}, ZAU (V : Int) l = 0 ↔ WfL V l
 | [] => by simp [ZAU, WfL]
 | c :: l => by
  simp only [ZAU]
  by_cases hc : ZR (V : Int) none c = 0
  ·rw [if_neg (by simp [hc]), Zs hV]
   constructor
   ·intro h d hd
    rcases List.mem_cons.1 hd with rfl | hd
    ·exact (ZAX hV).1 hc
    ·exact h d hd
   ·intro h d hd; exact h d (by simp [hd])
  ·rw [if_pos hc]
   constructor
   ·intro h; exact absurd h hc
   ·intro h; exact absurd ((ZAX hV).2 (h c (by simp))) hc

theorem ZJv {V : Nat} {l : List (List Int)} (h : WfL V l) : InR (V + 1) l := fun c hc x hx => by have := ((h c hc).rng x hx).2; omega
theorem WfC.inj {V : Nat} {c : List Int} (h : WfC V c) : ∀ x ∈ c, -x ∉ c := by
 intro x hx hn
 have h0 := (h.rng x hx).1
 have := List.pairwise_iff_getElem.1 h.inc
 obtain ⟨i, hi, rfl⟩ := List.getElem_of_mem hx
 obtain ⟨j, hj, e⟩ := List.getElem_of_mem hn
 rcases Nat.lt_trichotomy i j with hij | rfl | hij
 ·have := this i j hi hj hij; omega
 ·omega
 ·have := this j i hj hi hij; omega

theorem Der.mono {l l' : List (List Int)} {a a' : Int -> Prop} (hl : ∀ c ∈ l, c ∈ l') (ha : ∀ x, a x -> a' x) {x : Int} (h : Der l a x) : Der l' a' x := by
 induction h with
 | base h => exact .base (ha _ h)
 | step hc hx _ ih => exact .step (hl _ hc) hx ih
theorem Conf.mono {l l' : List (List Int)} {a a' : Int -> Prop} (hl : ∀ c ∈ l, c ∈ l') (ha : ∀ x, a x -> a' x) (h : Conf l a) : Conf l' a' :=
 let ⟨c, hc, h⟩ := h; ⟨c, hl c hc, fun y hy => (h y hy).mono hl ha⟩

theorem ZHB {V : Nat} (hV : V ≤ 4096) {l : List (List Int)} (hl : WfL V l) {b : List Int} (hcons : ∀ x ∈ b, -x ∉ b) {a : Int -> Prop} (hab : ∀ x, a x -> x ∈ b) (hn : ZAK 0 l b = none) {x : Int} (h : Der l a x) : x ∈ b := by
 induction h with
 | base h => exact hab _ h
 | step hc hx hy ih =>
  rename_i c x
  have hw := hl c hc
  rcases ZCO hn c hc with ht | ht
  ·obtain ⟨z, hz, hzb⟩ := Zn.1 ht
   by_cases hzx : z = x
   ·exact hzx ▸ hzb
   ·exact absurd (ih z hz hzx) (hcons z hzb)
  ·exfalso
   -- two open literals at different places
   have hall : ∀ y ∈ ZN c b, y = x := fun y hy => by
    obtain ⟨hyc, hyo⟩ := Z5.1 hy
    by_cases e : y = x
    ·exact e
    ·have := (hw.rng y hyc).2
     rw [show wrap64 (-y) = -y from by unfold wrap64; omega] at hyo
     exact absurd (ih y hyc e) hyo
   have hsub : ∀ (c : List Int), List.Sublist (ZN c b) c := by
    intro c
    induction c with
    | nil => simp [ZN]
    | cons y c ihc => simp only [ZN]; split; exact ihc.cons _; exact ihc.cons_cons _
   have hpw := hw.inc.sublist (hsub c)
   match hw0 : ZN c b, ht, hall, hpw with
   | [], ht, _, _ => simp at ht
   | [_], ht, _, _ => simp at ht
   | y :: z :: r, _, hall, hpw =>
    have e1 := hall y (by simp)
    have e2 := hall z (by simp)
    have := (List.pairwise_cons.1 hpw).1 z (by simp)
    rw [e1, e2] at this; omega

theorem ZCo {V : Nat} (hV : V ≤ 4096) {l : List (List Int)} (hl : WfL V l) {a : Int -> Prop} {b : List Int} (hr : ∀ x ∈ b, x ≠ 0 /\ x.natAbs ≤ V) (hcons : ∀ x ∈ b, -x ∉ b) (hab : ∀ x, a x -> x ∈ b) (hba : ∀ x ∈ b, Der l a x) (hs : ∀ i x, ZAK 0 l b ≠ some (i, [x])) : 0 ≤ (ZAg l b).2 ↔ Conf l a := by
 rw [ZBj hs]
 cases he : ZAK 0 l b with
 | none =>
  simp only [ZBr]
  constructor
  ·intro h; omega
  ·rintro ⟨c, hc, h⟩
   exfalso
   have hin : ∀ y ∈ c, -y ∈ b := fun y hy => ZHB hV hl hcons hab he (h y hy)
   rcases ZCO he c hc with ht | ht
   ·obtain ⟨z, hz, hzb⟩ := Zn.1 ht
    exact hcons z hzb (hin z hz)
   ·cases hw0 : ZN c b with
    | nil => rw [hw0] at ht; simp at ht
    | cons y r =>
     have hy : y ∈ ZN c b := by rw [hw0]; simp
     obtain ⟨hyc, hyo⟩ := Z5.1 hy
     have := ((hl c hc).rng y hyc).2
     rw [show wrap64 (-y) = -y from by unfold wrap64; omega] at hyo
     exact hyo (hin y hyc)
 | some r =>
  obtain ⟨i, o⟩ := r
  simp only [ZBr]
  obtain ⟨_, _, c, hc, ht, ho, hlen⟩ := ZAh he
  match o, ho, hlen, hs, he with
  | [x], _, _, hs, he => exact absurd he (hs i x)
  | x :: y :: r, _, hlen, _, _ => simp at hlen; omega
  | [], ho, _, _, _ =>
   refine iff_of_true (by omega) ⟨c, hc, fun y hy => ?_⟩
   by_cases hyo : -y ∈ b
   ·exact hba _ hyo
   ·exfalso
    have := ((hl c hc).rng y hy).2
    have : y ∈ ZN c b := Z5.2 ⟨hy, by rw [show wrap64 (-y) = -y from by unfold wrap64; omega]; exact hyo⟩
    rw [<- ho] at this; cases this

theorem ZHx {V : Nat} (hV : V ≤ 4096) {l : List (List Int)} (hl : WfL V l) {a : Int -> Prop} : ∀ (n : Nat) (b : List Int), ZDC l b ≤ n -> (∀ x ∈ b, x ≠ 0 /\ x.natAbs ≤ V) -> (∀ x ∈ b, -x ∉ b) -> (∀ x, a x -> x ∈ b) -> (∀ x ∈ b, Der l a x) -> (0 ≤ (ZAg l b).2 ↔ Conf l a) := by
 intro n
 induction n with
 | zero =>
  intro b hn hr hcons hab hba
  exact ZCo hV hl hr hcons hab hba (fun i x hs => by have := ZBF hs; omega)
 | succ n ih =>
  intro b hn hr hcons hab hba
  by_cases hs : ∃ i x, ZAK 0 l b = some (i, [x])
  ·obtain ⟨i, x, hs⟩ := hs
   rw [ZCU hs]
   have hlt := ZBF hs
   obtain ⟨_, _, c, hc, ht, ho, _⟩ := ZAh hs
   have hw := hl c hc
   have hxw : x ∈ ZN c b := by rw [<- ho]; simp
   obtain ⟨hxc, hxo⟩ := Z5.1 hxw
   have hxr := hw.rng x hxc
   rw [show wrap64 (-x) = -x from by unfold wrap64; omega] at hxo
   have hxb : x ∉ b := fun hc => by rw [Zn.2 ⟨x, hxc, hc⟩] at ht; cases ht
   refine ih (b ++ [x]) (by omega) ?_ ?_ (fun y hy => by simp [hab y hy]) ?_
   ·intro y hy
    rcases List.mem_append.1 hy with hy | hy
    ·exact hr y hy
    ·rw [List.mem_singleton.1 hy]; exact hxr
   ·intro y hy hny
    rcases List.mem_append.1 hy with hy | hy <;> rcases List.mem_append.1 hny with hny | hny
    ·exact hcons y hy hny
    ·have := List.mem_singleton.1 hny
     have e : -x = y := by omega
     exact hxo (e ▸ hy)
    ·rw [List.mem_singleton.1 hy] at hny; exact hxo hny
    ·have e1 := List.mem_singleton.1 hy
     have e2 := List.mem_singleton.1 hny
     omega
   ·intro y hy
    rcases List.mem_append.1 hy with hy | hy
    ·exact hba y hy
    ·rw [List.mem_singleton.1 hy]
     refine .step hc hxc fun z hz hzx => ?_
     by_cases hzo : -z ∈ b
     ·exact hba _ hzo
     ·exfalso
      have hzr := (hw.rng z hz).2
      have : z ∈ ZN c b := Z5.2 ⟨hz, by rw [show wrap64 (-z) = -z from by unfold wrap64; omega]; exact hzo⟩
      rw [<- ho] at this
      exact hzx (List.mem_singleton.1 this)
  ·exact ZCo hV hl hr hcons hab hba (fun i x h => hs ⟨i, x, h⟩)

abbrev negs (c : List Int) : Int -> Prop := fun x => -x ∈ c

theorem ZCh {V : Nat} (hV : V ≤ 4096) {l : List (List Int)} (hl : WfL V l) {c : List Int} (hc : WfC V c) : ZAi l c = true ↔ Conf l (negs c) := by
 have hmem : ∀ x, x ∈ ZI7 c ↔ -x ∈ c := by
  intro x
  unfold ZI7
  rw [List.mem_map]
  constructor
  ·rintro ⟨y, hy, rfl⟩
   have := (hc.rng y hy).2
   rw [show wrap64 (-y) = -y from by unfold wrap64; omega, Int.neg_neg]; exact hy
  ·intro h
   have := (hc.rng _ h).2
   exact ⟨-x, h, by unfold wrap64; omega⟩
 unfold ZAi
 rw [decide_eq_true_eq]
 refine ZHx hV hl _ (ZI7 c) (Nat.le_refl _) (fun x hx => ?_) (fun x hx hn => ?_) (fun x hx => (hmem x).2 hx) (fun x hx => .base ((hmem x).1 hx))
 ·have := hc.rng _ ((hmem x).1 hx); omega
 ·have h1 := (hmem x).1 hx
  have h2 := (hmem (-x)).1 hn
  exact hc.inj _ h1 h2

theorem ZEU {vals : List Int} {x : Int} (h : x ≠ 0) : ZBg vals (-x) = -ZBg vals x := by
 unfold ZBg
 by_cases hx : x < 0
 ·rw [if_pos hx, if_neg (by omega), Int.neg_neg]
 ·rw [if_neg hx, if_pos (by omega), Int.neg_neg]
theorem ZGM {vals : List Int} {x y : Int} (hx : x ≠ 0) (hy : y ≠ 0) (h : x.natAbs < vals.length) : ZBg (ZDw vals x) y = if y = x then 1 else if y = -x then -1 else ZBg vals y := by
 unfold ZBg ZDw
 simp only [List.getD_eq_getElem?_getD]
 by_cases h1 : x < 0 <;> by_cases h2 : y < 0 <;> simp only [h1, h2, if_true, if_false, List.getElem?_set] <;>
  (split <;> (try split) <;> (try split) <;> (try split) <;> first | omega | simp | rfl)

theorem ZFd {vals : List Int} {c : List Int} : ∀ {o : Int}, (∀ x ∈ c, x ≠ 0) ->
  ((ZA0 vals o c = (o, decide (o = 0)) /\ ∀ y ∈ c, ZBg vals y < 0) \/
   (∃ x ∈ c, o = 0 /\ ZA0 vals o c = (x, false) /\ ZBg vals x = 0 /\ ∀ y ∈ c, y ≠ x -> ZBg vals y < 0) \/
   (ZA0 vals o c = (0, false) /\ ((∃ z ∈ c, 0 < ZBg vals z) \/ (o ≠ 0 /\ ∃ z ∈ c, ZBg vals z = 0) \/ ∃ i j : Nat, ∃ (hi : i < c.length) (hj : j < c.length), i < j /\ ZBg vals c[i] = 0 /\ ZBg vals c[j] = 0))) := by
 induction c with
 | nil => intro o _; exact .inl ⟨rfl, fun y hy => by cases hy⟩
 | cons x c ih =>
  intro o hnz
  have hx0 := hnz x (by simp)
  have hnz' : ∀ y ∈ c, y ≠ 0 := fun y hy => hnz y (by simp [hy])
  simp only [ZA0]
  by_cases h1 : 0 < ZBg vals x
  ·rw [if_pos (.inl h1)]
   exact .inr (.inr ⟨rfl, .inl ⟨x, by simp, h1⟩⟩)
  ·by_cases h2 : ZBg vals x = 0
   ·by_cases h3 : o = 0
    ·subst h3
     rw [if_neg (by simp [h1]), if_pos h2]
     rcases @ih x hnz' with ⟨e, h⟩ | ⟨y, hy, e, _⟩ | ⟨e, h⟩
     ·refine .inr (.inl ⟨x, by simp, rfl, by rw [e, decide_eq_false hx0], h2, fun y hy hne => ?_⟩)
      rcases List.mem_cons.1 hy with rfl | hy
      ·exact absurd rfl hne
      ·exact h y hy
     ·exact absurd e hx0
     ·refine .inr (.inr ⟨e, ?_⟩)
      rcases h with ⟨z, hz, h⟩ | ⟨_, z, hz, h⟩ | ⟨i, j, hi, hj, hij, a, b⟩
      ·exact .inl ⟨z, by simp [hz], h⟩
      ·obtain ⟨j, hj, rfl⟩ := List.getElem_of_mem hz
       exact .inr (.inr ⟨0, j + 1, by simp, by simpa using hj, by omega, by simpa using h2, by simpa using h⟩)
      ·exact .inr (.inr ⟨i + 1, j + 1, by simpa using hi, by simpa using hj, by omega, by simpa using a, by simpa using b⟩)
    ·rw [if_pos (.inr ⟨h2, h3⟩)]
     exact .inr (.inr ⟨rfl, .inr (.inl ⟨h3, x, by simp, h2⟩)⟩)
   ·rw [if_neg (by simp [h1, h2]), if_neg h2]
    have hlt : ZBg vals x < 0 := by omega
    rcases @ih o hnz' with ⟨e, h⟩ | ⟨y, hy, e0, e, h, h'⟩ | ⟨e, h⟩
    ·refine .inl ⟨e, fun y hy => ?_⟩
     rcases List.mem_cons.1 hy with rfl | hy
     ·exact hlt
     ·exact h y hy
    ·refine .inr (.inl ⟨y, by simp [hy], e0, e, h, fun z hz hne => ?_⟩)
     rcases List.mem_cons.1 hz with rfl | hz
     ·exact hlt
     ·exact h' z hz hne
    ·refine .inr (.inr ⟨e, ?_⟩)
     rcases h with ⟨z, hz, h⟩ | ⟨h0, z, hz, h⟩ | ⟨i, j, hi, hj, hij, a, b⟩
     ·exact .inl ⟨z, by simp [hz], h⟩
     ·exact .inr (.inl ⟨h0, z, by simp [hz], h⟩)
     ·exact .inr (.inr ⟨i + 1, j + 1, by simpa using hi, by simpa using hj, by omega, by simpa using a, by simpa using b⟩)

structure Sound (V : Nat) (l : List (List Int)) (a : Int -> Prop) (vals : List Int) : Prop where
 len : vals.length = V + 1
 der : ∀ x : Int, x ≠ 0 -> 0 < ZBg vals x -> Der l a x
 all : ∀ x, a x -> 0 < ZBg vals x

theorem Sound.neg {V : Nat} {l : List (List Int)} {a : Int -> Prop} {vals : List Int} (h : Sound V l a vals) {y : Int} (hy : y ≠ 0) (hv : ZBg vals y < 0) : Der l a (-y) :=
 h.der (-y) (by omega) (by rw [ZEU hy]; omega)

theorem ZDD {V : Nat} {l : List (List Int)} (hl : WfL V l) {a : Int -> Prop} : ∀ (r : List (List Int)) (vals : List Int) (ch : Bool), (∀ c ∈ r, c ∈ l) -> Sound V l a vals ->
  (ZB3 r vals ch = none -> Conf l a) /\ (∀ v ch', ZB3 r vals ch = some (v, ch') -> Sound V l a v /\ (ch' = false -> ch = false /\ v = vals /\ ∀ c ∈ r, ZA0 vals 0 c = (0, false)))
 | [], vals, ch, _, hs => by
  simp only [ZB3]
  refine ⟨fun h => (by cases h), fun v ch' h => ?_⟩
  simp only [Option.some.injEq, Prod.mk.injEq] at h
  obtain ⟨rfl, rfl⟩ := h
  exact ⟨hs, fun h => ⟨h, rfl, fun c hc => by cases hc⟩⟩
 | c :: r, vals, ch, hr, hs => by
  have hcl := hr c (by simp)
  have hw := hl c hcl
  have hr' : ∀ d ∈ r, d ∈ l := fun d hd => hr d (by simp [hd])
  simp only [ZB3]
  rcases @ZFd vals c 0 (fun x hx => (hw.rng x hx).1) with ⟨e, h⟩ | ⟨x, hx, _, e, h, h'⟩ | ⟨e, h⟩
  ·rw [e]
   simp only [decide_true, if_true]
   exact ⟨fun _ => ⟨c, hcl, fun y hy => hs.neg (hw.rng y hy).1 (h y hy)⟩, fun v ch' h => by cases h⟩
  ·have hx0 := (hw.rng x hx)
   rw [e]
   simp only [Bool.false_eq_true, if_false, ne_eq, hx0.1, not_false_eq_true, if_true]
   have hd : Der l a x := .step hcl hx fun y hy hne => hs.neg (hw.rng y hy).1 (h' y hy hne)
   have hs' : Sound V l a (ZDw vals x) := by
    refine ⟨by rw [ZBI]; exact hs.len, fun y hy hv => ?_, fun y hy => ?_⟩
    ·rw [ZGM hx0.1 hy (by rw [hs.len]; omega)] at hv
     split at hv
     ·rename_i e; rw [e]; exact hd
     ·split at hv
      ·omega
      ·exact hs.der y hy hv
    ·have hv := hs.all y hy
     have hy0 : y ≠ 0 \/ y = 0 := by omega
     rcases hy0 with hy0 | rfl
     ·rw [ZGM hx0.1 hy0 (by rw [hs.len]; omega)]
      split
      ·omega
      ·split
       ·rename_i e; rw [e, ZEU hx0.1] at hv; omega
       ·exact hv
     ·have h0 := hx0.1
      have : ZBg (ZDw vals x) 0 = ZBg vals 0 := by
       unfold ZBg ZDw
       simp only [List.getD_eq_getElem?_getD, Int.lt_irrefl, if_false]
       split
       ·rw [List.getElem?_set_ne (by omega)]
       ·rw [List.getElem?_set_ne (by omega)]
      rw [this]; exact hv
   obtain ⟨k1, k2⟩ := ZDD hl r (ZDw vals x) true hr' hs'
   exact ⟨k1, fun v ch' h => ⟨(k2 v ch' h).1, fun hf => absurd ((k2 v ch' h).2 hf).1 (by simp)⟩⟩
  ·rw [e]
   simp only [Bool.false_eq_true, if_false, ne_eq, not_true_eq_false]
   obtain ⟨k1, k2⟩ := ZDD hl r vals ch hr' hs
   refine ⟨k1, fun v ch' h => ⟨(k2 v ch' h).1, fun hf => ?_⟩⟩
   obtain ⟨g1, g2, g3⟩ := (k2 v ch' h).2 hf
   refine ⟨g1, g2, fun d hd => ?_⟩
   rcases List.mem_cons.1 hd with rfl | hd
   ·exact e
   ·exact g3 d hd

theorem ZHk {V : Nat} {l : List (List Int)} (hl : WfL V l) {a : Int -> Prop} {vals : List Int} (hs : Sound V l a vals) (hq : ∀ c ∈ l, ZA0 vals 0 c = (0, false)) : ¬ Conf l a := by
 have hno : ∀ c ∈ l, ∀ x : Int, ∃ z ∈ c, z ≠ x /\ 0 ≤ ZBg vals z \/ (z = x /\ z ∈ c /\ 0 < ZBg vals z) := by
  intro c hc x
  have hw := hl c hc
  rcases @ZFd vals c 0 (fun x hx => (hw.rng x hx).1) with ⟨e, h⟩ | ⟨y, hy, _, e, h, h'⟩ | ⟨e, h⟩
  ·rw [hq c hc] at e; simp at e
  ·rw [hq c hc] at e; simp at e; exact absurd e.symm (hw.rng y hy).1
  ·rcases h with ⟨z, hz, h⟩ | ⟨h0, _⟩ | ⟨i, j, hi, hj, hij, h1, h2⟩
   ·by_cases e : z = x
    ·exact ⟨z, hz, .inr ⟨e, hz, h⟩⟩
    ·exact ⟨z, hz, .inl ⟨e, by omega⟩⟩
   ·exact absurd rfl h0
   ·have hlt := List.pairwise_iff_getElem.1 hw.inc i j hi hj hij
    by_cases e : c[i] = x
    ·exact ⟨c[j], List.getElem_mem hj, .inl ⟨fun e' => by rw [e, e'] at hlt; omega, by omega⟩⟩
    ·exact ⟨c[i], List.getElem_mem hi, .inl ⟨e, by omega⟩⟩
 have hder : ∀ x, Der l a x -> 0 < ZBg vals x := by
  intro x h
  induction h with
  | base h => exact hs.all _ h
  | step hc hx hy ih =>
   rename_i c x
   obtain ⟨z, hz, h⟩ := hno c hc x
   rcases h with ⟨hne, h⟩ | ⟨rfl, _, h⟩
   ·have := ih z hz hne
    rw [ZEU ((hl c hc).rng z hz).1] at this; omega
   ·exact h
 rintro ⟨c, hc, h⟩
 have hw := hl c hc
 obtain ⟨z, hz, h'⟩ := hno c hc 0
 have h1 := hder _ (h z hz)
 rw [ZEU (hw.rng z hz).1] at h1
 rcases h' with ⟨_, h'⟩ | ⟨_, _, h'⟩ <;> omega

theorem ZCE {V : Nat} {l : List (List Int)} (hl : WfL V l) {a : Int -> Prop} {vals : List Int} (hs : Sound V l a vals) (ih : ∀ v : List Int, v.count 0 < vals.count 0 -> Sound V l a v -> (ZAV l v = true ↔ Conf l a)) : ZAV l vals = true ↔ Conf l a := by
 have hin : InR vals.length l := by rw [hs.len]; exact ZJv hl
 rw [ZB2 hin]
 obtain ⟨k1, k2⟩ := ZDD hl l vals false (fun c hc => hc) hs
 cases hp : ZB3 l vals false with
 | none => simp only [true_iff]; exact k1 hp
 | some r =>
  obtain ⟨v, ch⟩ := r
  obtain ⟨g1, g2⟩ := k2 v ch hp
  cases ch with
  | true =>
   obtain ⟨_, _, e3, _⟩ := ZBh hin hp
   exact ih v ((e3 rfl).resolve_left (by simp)) g1
  | false =>
   obtain ⟨_, rfl, h⟩ := g2 rfl
   simp only [Bool.false_eq_true, false_iff]
   exact ZHk hl hs h

theorem ZFw {V : Nat} {l : List (List Int)} (hl : WfL V l) {a : Int -> Prop} : ∀ (n : Nat) (vals : List Int), vals.count 0 ≤ n -> Sound V l a vals -> (ZAV l vals = true ↔ Conf l a) := by
 intro n
 induction n with
 | zero =>
  intro vals hn hs
  exact ZCE hl hs (fun v hlt => by omega)
 | succ n ih =>
  intro vals hn hs
  exact ZCE hl hs (fun v hlt hv => ih v (by omega) hv)

theorem ZDy {V : Nat} : ∀ (c : List Int) (vals : List Int), WfC V c -> vals.length = V + 1 -> ∀ x : Int, x ≠ 0 -> x.natAbs ≤ V -> ZBg (c.foldl (fun v x => ZDw v (-x)) vals) x = if -x ∈ c then 1 else if x ∈ c then -1 else ZBg vals x
 | [], vals, _, _, x, _, _ => by simp
 | y :: c, vals, hw, hlen, x, hx, hxV => by
  have hy := hw.rng y (by simp)
  have h3 := List.pairwise_cons.1 hw.inc
  have hw' : WfC V c := ⟨fun x hx => hw.rng x (by simp [hx]), h3.2⟩
  rw [List.foldl_cons, ZDy c _ hw' (by rw [ZBI]; exact hlen) x hx hxV, ZGM (by omega) hx (by rw [hlen]; omega)]
  simp only [List.mem_cons, Int.neg_neg]
  by_cases h1 : -x ∈ c
  ·simp [h1]
  ·by_cases h2 : x ∈ c
   ·have hne : -x ≠ y := fun e => by have := h3.1 x h2; omega
    simp [h1, h2, hne]
   ·simp only [h1, h2, or_false, if_false]
    by_cases e1 : x = -y
    ·have e2 : -x = y := by omega
     rw [if_pos e1, if_pos e2]
    ·have e2 : ¬ -x = y := by omega
     simp only [if_neg e1, if_neg e2]
theorem ZJR (m : Nat) (x : Int) : ZBg (List.replicate m 0) x = 0 := by
 unfold ZBg
 simp only [List.getD_eq_getElem?_getD, List.getElem?_replicate]
 split <;> split <;> simp

def ZMB (V : Nat) (l : List (List Int)) (c : List Int) : Bool := ZAV l (ZBq (V + 1) c)

theorem ZKq {V : Nat} {l : List (List Int)} (hl : WfL V l) {c : List Int} (hc : WfC V c) : ZMB V l c = true ↔ Conf l (negs c) := by
 refine ZFw hl _ _ (Nat.le_refl _) ⟨ZAw _ _, fun x hx hv => ?_, fun x hx => ?_⟩
 ·have hxV : x.natAbs ≤ V \/ ¬ x.natAbs ≤ V := by omega
  rcases hxV with hxV | hxV
  ·unfold ZBq at hv
   rw [ZDy c _ hc (by simp) x hx hxV, ZJR] at hv
   split at hv
   ·rename_i h; exact .base h
   ·split at hv <;> omega
  ·exfalso
   have hlen : (ZBq (V + 1) c).length = V + 1 := ZAw _ _
   unfold ZBg at hv
   simp only [List.getD_eq_getElem?_getD] at hv
   split at hv
   ·rw [List.getElem?_eq_none (by omega)] at hv; simp at hv
   ·rw [List.getElem?_eq_none (by omega)] at hv; simp at hv
 ·have h0 := hc.rng _ hx
  unfold ZBq
  rw [ZDy c _ hc (by simp) x (by omega) (by omega), if_pos hx]
  omega

theorem ZMC {V : Nat} (hV : V ≤ 4096) {l : List (List Int)} (hl : WfL V l) {c : List Int} (hc : WfC V c) : ZMB V l c = ZAi l c := by
 rw [Bool.eq_iff_iff, ZKq hl hc, ZCh hV hl hc]

end
section
open Go.RowKit

theorem ZLt {l p : List (List Int)} : gapI l p < 0 ↔ ZMc 0 l p = none /\ ZDm p = false := by
 unfold gapI
 cases h : ZMc 0 l p with
 | some i => simp
 | none =>
  cases hb : ZDm p with
  | true => simp
  | false => simp
structure Refut (V : Nat) (l p : List (List Int)) : Prop where
 wl : WfL V l
 wp : WfL V p
 ok : ZMc 0 l p = none
 last : ZDm p = false

structure Modl (V : Nat) (m : List Int) : Prop where
 cons : ∀ x ∈ m, -x ∉ m
 total : ∀ x : Int, x ≠ 0 -> x.natAbs ≤ V -> x ∈ m \/ -x ∈ m

theorem Der.holds {V : Nat} {l : List (List Int)} {a : Int -> Prop} {m : List Int} (hm : Modl V m) (hl : ∀ c ∈ l, Zx c m = true) (ha : ∀ x, a x -> x ∈ m) {x : Int} (h : Der l a x) : x ∈ m := by
 induction h with
 | base h => exact ha _ h
 | step hc _ _ ih =>
  rename_i c x _ _
  obtain ⟨z, hz, hzm⟩ := Zn.1 (hl c hc)
  by_cases e : z = x
  ·exact e ▸ hzm
  ·exact absurd (ih z hz e) (hm.cons z hzm)
theorem ZF1 {V : Nat} (hV : V ≤ 4096) {l : List (List Int)} (hw : WfL V l) {c : List Int} (hc : WfC V c) {m : List Int} (hm : Modl V m) (hl : ∀ c ∈ l, Zx c m = true) (h : ZAi l c = true) : Zx c m = true := by
 by_cases ht : Zx c m = true
 ·exact ht
 ·exfalso
  have hneg : ∀ y ∈ c, -y ∈ m := fun y hy => (hm.total y (hc.rng y hy).1 (hc.rng y hy).2).resolve_left fun h => ht (Zn.2 ⟨y, hy, h⟩)
  obtain ⟨d, hd, h⟩ := (ZCh hV hw hc).1 h
  obtain ⟨z, hz, hzm⟩ := Zn.1 (hl d hd)
  have := (h z hz).holds hm hl (fun x hx => by have := hneg _ hx; rwa [Int.neg_neg] at this)
  exact hm.cons z hzm this
theorem ZEB {l p : List (List Int)} : ZGE l p = true ↔ ZMc 0 l p = none /\ ZDm p = false := by
 unfold ZGE
 rw [decide_eq_true_eq, ZLt]
end
end Go.Proofs.YtjmignmnlpamjaaGreat
