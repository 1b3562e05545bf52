/-
  Part 26 of the texts that the claims of this seat lean on: walks of the program's functions by contracts over symbolic frames, and plain laws of what they compute. No condition.
-/
import Derived.Test.YtmlikmldfdgmcaaGreatVp5
import Derived.Test.YtmlikmldfdgmcaaGreatVp6
import Derived.Test.YtmlikmldfdgmcaaGreatVp7
import Derived.Test.YtmlikmldfdgmcaaGreatVp13
import Derived.Test.YtmlikmldfdgmcaaGreatVp18
import Derived.Test.YtmlikmldfdgmcaaGreatVp19
import Derived.Test.YtmlikmldfdgmcaaGreatVp25
set_option linter.unusedVariables false
set_option linter.unusedSimpArgs false
set_option linter.unusedSectionVars false
namespace Go.Proofs.YtmlikmldfdgmcaaGreat
open Go.RowKit
set_option linter.unusedSimpArgs false

set_option maxHeartbeats 2000000
set_option maxRecDepth 100000
abbrev vc : Vx := (2, 0)
abbrev vd : Vx := (3, 0)
end Go.Proofs.YtmlikmldfdgmcaaGreat
namespace Go.Proofs.YtmlikmldfdgmcaaGreat
open Go.RowKit
set_option linter.unusedSimpArgs false

set_option maxHeartbeats 2000000
set_option maxRecDepth 100000
def chooseN : Nat → Nat → Nat
  | _, 0 => 1
  | 0, _ + 1 => 0
  | n + 1, k + 1 => chooseN n k + chooseN n (k + 1)
theorem subs_choose : ∀ (s : List Vx) (k : Nat), (subsV k s).length = chooseN s.length k
  | s, 0 => by rw [subsV_zero]; cases s <;> rfl
  | [], k + 1 => by rw [subsV_short _ _ (by simp)]; rfl
  | v :: s, k + 1 => by rw [subsV_next, subs_choose s k, subs_choose s (k + 1)]; rfl
theorem few_len {l : Cx} (h : fewAllV l = true) : l.length ≤ 30 := by
  unfold fewAllV at h
  simp only [Bool.and_eq_true, decide_eq_true_eq] at h
  exact h.1
end Go.Proofs.YtmlikmldfdgmcaaGreat
namespace Go.Proofs.YtmlikmldfdgmcaaGreat
theorem hasC_iff {l : Cx} {s : List Vx} : hasC' l s = true ↔ ∃ f ∈ l, insideV s f = true := by unfold hasC'; rw [List.any_eq_true]
theorem all_iff {l : Cx} (hl : ∀ s ∈ l, Asc s) {k : Nat} {x : List Vx} : x ∈ allC l k ↔ Asc x ∧ x.length = k ∧ hasC' l x = true := by
  rw [allC_mem, hasC_iff]
  constructor
  · rintro ⟨f, hf, hx⟩
    obtain ⟨h1, h2⟩ := (subsV_mem _ _ _).1 hx
    have ha : Asc x := List.Pairwise.sublist h1 (hl f hf)
    exact ⟨ha, h2, f, hf, (sub_inside ha (hl f hf)).1 h1⟩
  · rintro ⟨ha, h2, f, hf, h⟩
    exact ⟨f, hf, (subsV_mem _ _ _).2 ⟨(sub_inside ha (hl f hf)).2 h, h2⟩⟩
theorem all_few {l : Cx} {k B : Nat} (h : ∀ s ∈ l, (subsV k s).length ≤ B) : (allC l k).length ≤ B * l.length := by
  have h1 : (allC l k).length ≤ (fcsC l k).length := List.Nodup.length_le_of_subset (allC_asc l _).nodup fun x hx => fcsC_mem.2 hx
  have h2 : ∀ l : Cx, (∀ s ∈ l, (subsV k s).length ≤ B) → (fcsC l k).length ≤ B * l.length := by
    intro l
    induction l with
    | nil => intro _; simp [fcsC]
    | cons s l ih =>
      intro h
      have h3 := ih fun x hx => h x (List.mem_cons_of_mem _ hx)
      have h4 := h s (by simp)
      have h5 : (fcsC (s :: l) k).length = (subsV k s).length + (fcsC l k).length := by unfold fcsC; simp
      rw [h5, List.length_cons, Nat.mul_add, Nat.mul_one]
      omega
  exact Nat.le_trans h1 (h2 l h)
theorem choose_5 : ∀ n ≤ 5, ∀ k ≤ 5, chooseN n k ≤ 10 := by decide
structure Gd (l : Cx) : Prop where
  good : GoodX l
  few : l.length ≤ 30
  five : ∀ s ∈ l, s.length ≤ 5
theorem Gd.all {l : Cx} (h : Gd l) (k : Nat) : (allC l k).length ≤ 300 := by
  have := all_few (l := l) (k := k) (B := 10) fun s hs => by
    have h5 := h.five s hs
    by_cases hk : k ≤ 5
    · rw [subs_choose]; exact choose_5 _ h5 _ hk
    · rw [subsV_short k s (by omega)]; simp
  have := h.few
  omega
theorem Gd.zero {l : Cx} (h : Gd l) : chkC l = 0 := goodX_iff.2 h.good
theorem Gd.none {l : Cx} (h : Gd l) {k : Nat} (hk : 5 < k) : allC l k = [] := by
  apply List.eq_nil_iff_forall_not_mem.2
  intro x hx
  obtain ⟨f, hf, hx⟩ := allC_mem.1 hx
  rw [subsV_short k f (by have := h.five f hf; omega)] at hx
  simp at hx
end Go.Proofs.YtmlikmldfdgmcaaGreat
namespace Go.Proofs.YtmlikmldfdgmcaaGreat
theorem dblC {α β : Type} (R : α → β → Bool) : ∀ (A : List α) (B : List β), (A.map fun a => (B.filter (R a)).length).sum = (B.map fun b => (A.filter fun a => R a b).length).sum
  | [], B => by
    induction B with
    | nil => rfl
    | cons b B ih => rw [List.map_cons, List.sum_cons, ← ih]; rfl
  | a :: A, B => by
    rw [List.map_cons, List.sum_cons, dblC R A B]
    clear dblC
    induction B with
    | nil => rfl
    | cons b B ih =>
      rw [List.map_cons, List.sum_cons, List.map_cons, List.sum_cons, ← ih]
      by_cases h : R a b = true
      · rw [List.filter_cons_of_pos h, List.filter_cons_of_pos (by exact h), List.length_cons, List.length_cons]; omega
      · rw [List.filter_cons_of_neg h, List.filter_cons_of_neg (by exact h)]; omega
theorem sumPar {α : Type} {f : α → Nat} {p : α → Bool} : ∀ {A : List α}, (∀ a ∈ A, f a % 2 = if p a = true then 1 else 0) → (A.map f).sum % 2 = (A.filter p).length % 2
  | [], _ => rfl
  | a :: A, h => by
    have h1 := h a (List.mem_cons_self ..)
    have h2 := sumPar (A := A) fun b hb => h b (List.mem_cons_of_mem _ hb)
    rw [List.map_cons, List.sum_cons]
    by_cases hp : p a = true
    · rw [if_pos hp] at h1
      rw [List.filter_cons_of_pos hp, List.length_cons]; omega
    · rw [if_neg hp] at h1
      rw [List.filter_cons_of_neg hp]; omega
def orF (f : Vx → Nat) (t : List Vx) : Nat := t.foldl (fun m v => m ||| f v) 0
def Lab3 (n : Nat) : Prop := n = 1 ∨ n = 2 ∨ n = 4
theorem lab_cases {x y z : Nat} (hx : Lab3 x) (hy : Lab3 y) (hz : Lab3 z) :
    ((if (0 ||| x) ||| y = 3 then 1 else 0) + ((if (0 ||| x) ||| z = 3 then 1 else 0) + (if (0 ||| y) ||| z = 3 then 1 else 0))) % 2 = if ((0 ||| x) ||| y) ||| z = 7 then 1 else 0 := by
  rcases hx with rfl | rfl | rfl <;> rcases hy with rfl | rfl | rfl <;> rcases hz with rfl | rfl | rfl <;> decide
theorem tri_par {f : Vx → Nat} {s : List Vx} (h3 : s.length = 3) (hf : ∀ v ∈ s, Lab3 (f v)) :
    ((subsV 2 s).filter fun t => decide (orF f t = 3)).length % 2 = if decide (orF f s = 7) = true then 1 else 0 := by
  obtain ⟨a, b, c, rfl⟩ : ∃ a b c, s = [a, b, c] := by
    match s, h3 with
    | [a, b, c], _ => exact ⟨a, b, c, rfl⟩
  have h := lab_cases (hf a (by simp)) (hf b (by simp)) (hf c (by simp))
  have e : subsV 2 [a, b, c] = [[a, b], [a, c], [b, c]] := rfl
  have cnt : ∀ (p : List Vx → Bool) (x y z : List Vx), ([x, y, z].filter p).length = (if p x = true then 1 else 0) + ((if p y = true then 1 else 0) + (if p z = true then 1 else 0)) := fun p x y z => by
    simp only [List.filter_cons, List.filter_nil]
    cases p x <;> cases p y <;> cases p z <;> rfl
  rw [e, cnt]
  simp only [decide_eq_true_eq]
  exact h
theorem parity3 {l : Cx} {f : Vx → Nat} (G : GoodX l) (h3 : ∀ s ∈ l, s.length = 3) (hok : ∀ t ∈ allC l 2, okC l t = true) (hf : ∀ s ∈ l, ∀ v ∈ s, Lab3 (f v)) :
    (l.filter fun s => decide (orF f s = 7)).length % 2 = (((allC l 2).filter (oneC l)).filter fun t => decide (orF f t = 3)).length % 2 := by
  have hL : ∀ s ∈ l, ((allC l 2).filter fun t => insideV t s && decide (orF f t = 3)).length % 2 = if decide (orF f s = 7) = true then 1 else 0 := fun s hs => by
    rw [← tri_par (h3 s hs) (hf s hs)]
    have hA : ((allC l 2).filter fun t => insideV t s && decide (orF f t = 3)).Nodup := (allC_asc l 2).nodup.filter _
    have hB : ((subsV 2 s).filter fun t => decide (orF f t = 3)).Nodup := (subs_nodup (G.asc s hs) 2).filter _
    have hm : ∀ t, t ∈ (allC l 2).filter (fun t => insideV t s && decide (orF f t = 3)) ↔ t ∈ (subsV 2 s).filter (fun t => decide (orF f t = 3)) := fun t => by
      rw [List.mem_filter, List.mem_filter, Bool.and_eq_true, all_iff G.asc]
      constructor
      · rintro ⟨⟨h1, h2, _⟩, h4, h5⟩
        exact ⟨(subsV_mem _ _ _).2 ⟨(sub_inside h1 (G.asc s hs)).2 h4, h2⟩, h5⟩
      · rintro ⟨h, h5⟩
        obtain ⟨h3, h4⟩ := (subsV_mem _ _ _).1 h
        have ha : Asc t := (G.asc s hs).sublist h3
        have hi := (sub_inside ha (G.asc s hs)).1 h3
        exact ⟨⟨ha, h4, hasC_iff.2 ⟨s, hs, hi⟩⟩, hi, h5⟩
    have h1 := List.Nodup.length_le_of_subset hA fun t ht => (hm t).1 ht
    have h2 := List.Nodup.length_le_of_subset hB fun t ht => (hm t).2 ht
    congr 1; omega
  have hR : ∀ t ∈ allC l 2, (l.filter fun s => insideV t s && decide (orF f t = 3)).length % 2 = if (oneC l t && decide (orF f t = 3)) = true then 1 else 0 := fun t ht => by
    have h1 := hok t ht
    unfold okC at h1
    rw [Bool.or_eq_true, decide_eq_true_eq, decide_eq_true_eq] at h1
    unfold oneC
    by_cases h5 : orF f t = 3
    · have e : (l.filter fun s => insideV t s && decide (orF f t = 3)) = aroundC l t := by
        unfold aroundC
        congr 1
        funext s
        rw [decide_eq_true h5, Bool.and_true]
      rw [e, decide_eq_true h5, Bool.and_true]
      simp only [decide_eq_true_eq]
      rcases h1 with h1 | h1
      · rw [h1, if_pos rfl]
      · rw [h1, if_neg (by decide)]
    · have e : (l.filter fun s => insideV t s && decide (orF f t = 3)) = [] := by
        rw [List.filter_eq_nil_iff]
        intro s _
        rw [decide_eq_false h5, Bool.and_false]
        exact Bool.false_ne_true
      rw [e, decide_eq_false h5, Bool.and_false]
      rfl
  have h1 := sumPar hL
  have h2 := sumPar hR
  have h3 := dblC (fun s t => insideV t s && decide (orF f t = 3)) l (allC l 2)
  rw [← h1, h3, h2, List.filter_filter]
  congr 2
  apply List.filter_congr
  intro t _
  rw [Bool.and_comm]
end Go.Proofs.YtmlikmldfdgmcaaGreat
namespace Go.Proofs.YtmlikmldfdgmcaaGreat
theorem dim_const {n : Nat} : ∀ {l : Cx}, l ≠ [] → (∀ s ∈ l, s.length = n) → dimC l = (n : Int) - 1
  | [], h, _ => absurd rfl h
  | s :: l, _, h => by
    have go : ∀ (l : Cx), (∀ s ∈ l, s.length = n) → l.foldl (fun m s => if m < (s.length : Int) - 1 then (s.length : Int) - 1 else m) ((n : Int) - 1) = (n : Int) - 1 := fun l => by
      induction l with
      | nil => intro _; rfl
      | cons t l ih =>
        intro hl
        rw [List.foldl_cons, hl t (List.mem_cons_self ..), if_neg (by omega)]
        exact ih fun u hu => hl u (List.mem_cons_of_mem _ hu)
    unfold dimC
    rw [List.foldl_cons, h s (List.mem_cons_self ..)]
    have e : (if (-1 : Int) < (n : Int) - 1 then (n : Int) - 1 else -1) = (n : Int) - 1 := by split <;> omega
    rw [e]
    exact go l fun t ht => h t (List.mem_cons_of_mem _ ht)
theorem tri_len {l : Cx} (hd : dimC l = 2) (hs : sizeP l = true) : ∀ s ∈ l, s.length = 3 := fun s hm => by
  have h := sizeP_iff.1 hs
  have := dim_const (n := s.length) (l := l) (fun e => by rw [e] at hm; cases hm) fun t ht => h t ht s hm
  omega
def orL (f : Vx → Int) (t : List Vx) : Int := t.foldl (fun m v => ior m (f v)) 0
def playF (f : Vx → Int) (t : List Vx) : Int × Bool := t.foldl (fun p v => (ior p.1 (f v), p.2 && decide (f v ≠ 0) && decide (iand p.1 (f v) = 0))) (0, true)
theorem ior_n8 : ∀ a b : Fin 8, ior (a.val : Int) (b.val : Int) = ((a.val ||| b.val : Nat) : Int) ∧ a.val ||| b.val < 8 := by decide +kernel
theorem orL_nat {g : Vx → Nat} : ∀ {t : List Vx}, (∀ v ∈ t, g v < 8) → ∀ m : Nat, m < 8 → t.foldl (fun m v => ior m ((g v : Nat) : Int)) (m : Int) = ((t.foldl (fun m v => m ||| g v) m : Nat) : Int)
  | [], _, _, _ => rfl
  | v :: t, h, m, hm => by
    obtain ⟨h1, h2⟩ := ior_n8 ⟨m, hm⟩ ⟨g v, h v (List.mem_cons_self ..)⟩
    rw [List.foldl_cons, List.foldl_cons]
    have h1' : ior (m : Int) ((g v : Nat) : Int) = ((m ||| g v : Nat) : Int) := h1
    rw [h1']
    exact orL_nat (fun u hu => h u (List.mem_cons_of_mem _ hu)) _ h2
def Lab3I (x : Int) : Prop := x = 1 ∨ x = 2 ∨ x = 4
theorem lab_nat {x : Int} (h : Lab3I x) : Lab3 x.toNat ∧ ((x.toNat : Nat) : Int) = x := by
  rcases h with rfl | rfl | rfl
  · exact ⟨.inl rfl, rfl⟩
  · exact ⟨.inr (.inl rfl), rfl⟩
  · exact ⟨.inr (.inr rfl), rfl⟩
theorem lab_lt {n : Nat} (h : Lab3 n) : n < 8 := by rcases h with rfl | rfl | rfl <;> decide
theorem orL_go {f : Vx → Int} : ∀ (t : List Vx) (m : Int), (∀ v ∈ t, Lab3I (f v)) → t.foldl (fun m v => ior m (f v)) m = t.foldl (fun m v => ior m (((f v).toNat : Nat) : Int)) m
  | [], _, _ => (List.foldl_nil ..).trans (List.foldl_nil ..).symm
  | v :: t, m, hl => by
    have h1 := (lab_nat (hl v (List.mem_cons_self ..))).2
    have h2 := orL_go t (ior m (f v)) fun u hu => hl u (List.mem_cons_of_mem _ hu)
    have h3 : ior m (((f v).toNat : Nat) : Int) = ior m (f v) := congrArg (ior m) h1
    simp only [List.foldl_cons]
    rw [h3]
    exact h2
theorem orL_nat0 {f : Vx → Int} {t : List Vx} (h : ∀ v ∈ t, Lab3I (f v)) : t.foldl (fun m v => ior m (((f v).toNat : Nat) : Int)) ((0 : Nat) : Int) = ((t.foldl (fun m v => m ||| (f v).toNat) 0 : Nat) : Int) :=
  orL_nat (g := fun v => (f v).toNat) (t := t) (fun v hv => lab_lt (lab_nat (h v hv)).1) 0 (Nat.zero_lt_succ 7)
theorem orL_is {f : Vx → Int} {t : List Vx} (h : ∀ v ∈ t, Lab3I (f v)) : orL f t = ((orF (fun v => (f v).toNat) t : Nat) : Int) := by
  unfold orL orF
  rw [orL_go t 0 h]
  exact orL_nat0 h
theorem play_cases {x y : Int} (hx : Lab3I x) (hy : Lab3I y) :
    (decide (ior (ior 0 x) y = 3) && ((true && decide (x ≠ 0) && decide (iand 0 x = 0)) && decide (y ≠ 0) && decide (iand (ior 0 x) y = 0))) = decide (ior (ior 0 x) y = 3) := by
  rcases hx with rfl | rfl | rfl <;> rcases hy with rfl | rfl | rfl <;> decide +kernel
theorem play_is {f : Vx → Int} {t : List Vx} (h2 : t.length = 2) (h : ∀ v ∈ t, Lab3I (f v)) : (decide ((playF f t).1 = 3) && (playF f t).2) = decide (orL f t = 3) := by
  obtain ⟨a, b, rfl⟩ : ∃ a b, t = [a, b] := by
    match t, h2 with
    | [a, b], _ => exact ⟨a, b, rfl⟩
  exact play_cases (h a (by simp)) (h b (by simp))
theorem parity_law {l b : Cx} {f : Vx → Int} (G : GoodX l) (hb : bndP l = (b, 0)) (hd : dimC l = 2) (hs : sizeP l = true) (hf : ∀ s ∈ l, ∀ v ∈ s, Lab3I (f v)) :
    (l.filter fun s => decide (orL f s = 7)).length % 2 = (b.filter fun t => decide ((playF f t).1 = 3) && (playF f t).2).length % 2 := by
  have h3 := tri_len hd hs
  have ht : (dimC l).toNat = 2 := by omega
  unfold bndP at hb
  rw [if_neg (by rw [goodX_iff.2 G]; omega), if_neg (by rintro (h | h); omega; rw [hs] at h; cases h), ht] at hb
  split at hb
  · rename_i hok
    rw [List.all_eq_true] at hok
    obtain rfl : (allC l 2).filter (oneC l) = b := by injection hb
    have hpar := parity3 (f := fun v => (f v).toNat) G h3 hok fun s hs v hv => (lab_nat (hf s hs v hv)).1
    have e1 : (l.filter fun s => decide (orL f s = 7)) = l.filter fun s => decide (orF (fun v => (f v).toNat) s = 7) := List.filter_congr fun s hs => by
      rw [orL_is (hf s hs)]
      exact decide_eq_decide.2 (by omega)
    have e2 : (((allC l 2).filter (oneC l)).filter fun t => decide ((playF f t).1 = 3) && (playF f t).2) = ((allC l 2).filter (oneC l)).filter fun t => decide (orF (fun v => (f v).toNat) t = 3) := List.filter_congr fun t ht => by
      obtain ⟨s, hsl, hm⟩ := allC_mem.1 (List.mem_filter.1 ht).1
      obtain ⟨h4, h5⟩ := (subsV_mem _ _ _).1 hm
      have hl : ∀ v ∈ t, Lab3I (f v) := fun v hv => hf s hsl v (h4.subset hv)
      rw [play_is h5 hl, orL_is hl]
      exact decide_eq_decide.2 (by omega)
    rw [e1, e2]
    exact hpar
  · injection hb with _ h
    cases h
end Go.Proofs.YtmlikmldfdgmcaaGreat
