/- Part 23: walks by contracts, and plain laws. -/
import Derived.Test.YtpiidgcljlalmaaVa22
set_option linter.unusedVariables false
set_option linter.unusedSimpArgs false
set_option linter.unusedSectionVars false
namespace Go.Proofs.Ytpiidgcljlalmaa
open Go.RowKit
def allF : Nat → List (List Int) → List Int → List (List Int)
  | 0, l, a => if l.all (fun c => trueI c a) then [a] else []
  | n + 1, l, a => allF n l (a ++ [(a.length : Int) + 1]) ++ allF n l (a ++ [-((a.length : Int) + 1)])
def asgI (l : List (List Int)) (x : Int) : List (List Int) := (l.filter fun c => !decide (x ∈ c)).map fun c => c.filter fun y => !decide (y = -x)
def emptyC (l : List (List Int)) : Bool := l.any fun c => decide (c.length = 0)
def cntF : Nat → Int → List (List Int) → Nat
  | 0, _, l => if emptyC l = true then 0 else if l.length = 0 then 1 else 0
  | n + 1, v, l => if emptyC l = true then 0 else if l.length = 0 then 2 ^ (n + 1) else cntF n (v + 1) (asgI l v) + cntF n (v + 1) (asgI l (-v))
def redI (l : List (List Int)) (a : List Int) : List (List Int) := (l.filter fun c => !trueI c a).map fun c => c.filter fun y => !decide (-y ∈ a)
def PosL (a : List Int) : Prop := ∀ (i : Nat) (x : Int), a[i]? = some x → x = (i : Int) + 1 ∨ x = -((i : Int) + 1)
theorem PosL.new {a : List Int} (h : PosL a) {x : Int} (hx : x = (a.length : Int) + 1 ∨ x = -((a.length : Int) + 1)) : x ∉ a ∧ -x ∉ a := by
  have key : ∀ y ∈ a, y.natAbs ≤ a.length := fun y hy => by
    obtain ⟨i, hi⟩ := List.mem_iff_getElem?.1 hy
    have h1 := (List.getElem?_eq_some_iff.1 hi).1
    have := h i y hi
    omega
  exact ⟨fun q => by have := key _ q; omega, fun q => by have := key _ q; omega⟩
theorem PosL.snoc {a : List Int} (h : PosL a) {x : Int} (hx : x = (a.length : Int) + 1 ∨ x = -((a.length : Int) + 1)) : PosL (a ++ [x]) := fun i y e => by
  by_cases hi : i < a.length
  · rw [List.getElem?_append_left hi] at e
    exact h i y e
  · have h1 := (List.getElem?_eq_some_iff.1 e).1
    rw [List.length_append, List.length_singleton] at h1
    have hie : i = a.length := by omega
    subst hie
    rw [List.getElem?_append_right (Nat.le_refl _), Nat.sub_self] at e
    have : x = y := by simpa using e
    rw [← this]; exact hx
theorem true_snoc (c a : List Int) (x : Int) : trueI c (a ++ [x]) = (trueI c a || decide (x ∈ c)) := by
  rw [Bool.eq_iff_iff, Bool.or_eq_true_iff, trueI_iff, trueI_iff, decide_eq_true_eq]
  constructor
  · rintro ⟨y, y1, y2⟩
    rcases List.mem_append.1 y2 with q | q
    · exact .inl ⟨y, y1, q⟩
    · rw [List.mem_singleton.1 q] at y1; exact .inr y1
  · rintro (⟨y, y1, y2⟩ | q)
    · exact ⟨y, y1, List.mem_append_left _ y2⟩
    · exact ⟨x, q, List.mem_append_right _ (by simp)⟩
theorem red_snoc (l : List (List Int)) {a : List Int} {x : Int} (h2 : -x ∉ a) : redI l (a ++ [x]) = asgI (redI l a) x := by
  unfold redI asgI
  rw [List.filter_map, List.map_map, List.filter_filter]
  have e : (l.filter fun c => !trueI c (a ++ [x])) = l.filter fun c => ((fun c : List Int => !decide (x ∈ c)) ∘ fun c : List Int => c.filter fun y => !decide (-y ∈ a)) c && !trueI c a := List.filter_congr fun c _ => by
    rw [true_snoc]
    have : decide (x ∈ c.filter fun y => !decide (-y ∈ a)) = decide (x ∈ c) := decide_eq_decide.2 (by rw [List.mem_filter]; simp [h2])
    simp only [Function.comp_apply, this, Bool.not_or]
    exact Bool.and_comm _ _
  rw [e]
  refine List.map_congr_left fun c _ => ?_
  show (c.filter fun y => !decide (-y ∈ a ++ [x])) = (c.filter fun y => !decide (-y ∈ a)).filter fun y => !decide (y = -x)
  rw [List.filter_filter]
  refine List.filter_congr fun y _ => ?_
  rw [← Bool.not_or]
  congr 1
  rw [Bool.eq_iff_iff, Bool.or_eq_true_iff, decide_eq_true_eq, decide_eq_true_eq, decide_eq_true_eq, List.mem_append, List.mem_singleton]
  constructor
  · rintro (q | q)
    · exact .inr q
    · exact .inl (by omega)
  · rintro (q | q)
    · exact .inr (by omega)
    · exact .inl q
theorem all_wrong {l : List (List Int)} : ∀ (n : Nat) (a : List Int), PosL a → (∃ c ∈ l, ∀ y ∈ c, -y ∈ a) → allF n l a = []
  | 0, a, hp, ⟨c, c1, c2⟩ => by
    unfold allF
    rw [if_neg]
    intro q
    obtain ⟨y, y1, y2⟩ := trueI_iff.1 (List.all_eq_true.1 q c c1)
    have hy := c2 y y1
    obtain ⟨i, hi⟩ := List.mem_iff_getElem?.1 y2
    obtain ⟨j, hj⟩ := List.mem_iff_getElem?.1 hy
    have h1 := hp i y hi
    have h2 := hp j (-y) hj
    have hij : i = j := by omega
    subst hij
    rw [hi] at hj
    have := Option.some.inj hj
    omega
  | n + 1, a, hp, ⟨c, c1, c2⟩ => by
    unfold allF
    rw [all_wrong n _ (hp.snoc (.inl rfl)) ⟨c, c1, fun y hy => List.mem_append_left _ (c2 y hy)⟩, all_wrong n _ (hp.snoc (.inr rfl)) ⟨c, c1, fun y hy => List.mem_append_left _ (c2 y hy)⟩]
    rfl
theorem empty_red {l : List (List Int)} {a : List Int} : emptyC (redI l a) = true ↔ ∃ c ∈ l, trueI c a = false ∧ ∀ y ∈ c, -y ∈ a := by
  unfold emptyC redI
  rw [List.any_map, List.any_eq_true]
  constructor
  · rintro ⟨c, hc, h⟩
    obtain ⟨c1, c2⟩ := List.mem_filter.1 hc
    refine ⟨c, c1, by simpa using c2, fun y hy => ?_⟩
    have h' := List.length_eq_zero_iff.1 (of_decide_eq_true h)
    have := List.filter_eq_nil_iff.1 h' y hy
    simpa using this
  · rintro ⟨c, c1, c2, c3⟩
    refine ⟨c, List.mem_filter.2 ⟨c1, by rw [c2]; rfl⟩, decide_eq_true (List.length_eq_zero_iff.2 (List.filter_eq_nil_iff.2 fun y hy => ?_))⟩
    simpa using c3 y hy
theorem all_full {l : List (List Int)} {V : Nat} (hl : ∀ c ∈ l, ∀ x ∈ c, x ≠ 0 ∧ x.natAbs ≤ V) {a : List Int} (hp : PosL a) (hV : a.length = V) (he : emptyC (redI l a) = false) : l.all (fun c => trueI c a) = true := List.all_eq_true.2 fun c hc => Classical.byContradiction fun q => by
  have : emptyC (redI l a) = true := empty_red.2 ⟨c, hc, by simpa using q, fun y hy => ?_⟩
  · rw [this] at he; cases he
  · have hr := hl c hc y hy
    have hi : y.natAbs - 1 < a.length := by omega
    have h1 := hp _ _ (List.getElem?_eq_getElem hi)
    have hm := List.getElem_mem hi
    rcases Int.natAbs_eq y with e | e
    · rcases h1 with h1 | h1
      · exfalso
        exact q (trueI_iff.2 ⟨y, hy, by rw [show y = a[y.natAbs - 1] by omega]; exact hm⟩)
      · rw [show -y = a[y.natAbs - 1] by omega]; exact hm
    · rcases h1 with h1 | h1
      · rw [show -y = a[y.natAbs - 1] by omega]; exact hm
      · exfalso
        exact q (trueI_iff.2 ⟨y, hy, by rw [show y = a[y.natAbs - 1] by omega]; exact hm⟩)
theorem red_nil (l : List (List Int)) : redI l [] = l := by
  unfold redI
  have e1 : (l.filter fun c => !trueI c []) = l := List.filter_eq_self.2 fun c _ => by
    have : trueI c [] = false := by
      cases q : trueI c []
      · rfl
      · obtain ⟨_, _, h⟩ := trueI_iff.1 q; cases h
    rw [this]; rfl
  rw [e1]
  refine (List.map_congr_left fun c _ => ?_).trans (List.map_id l)
  exact List.filter_eq_self.2 fun y _ => by simp
theorem all_pow {l : List (List Int)} : ∀ (n : Nat) (a : List Int), (∀ c ∈ l, trueI c a = true) → (allF n l a).length = 2 ^ n
  | 0, a, h => by
    unfold allF
    rw [if_pos (List.all_eq_true.2 h)]; rfl
  | n + 1, a, h => by
    have hs : ∀ x : Int, ∀ c ∈ l, trueI c (a ++ [x]) = true := fun x c hc => by rw [true_snoc, h c hc]; rfl
    unfold allF
    rw [List.length_append, all_pow n _ (hs _), all_pow n _ (hs _), Nat.pow_succ]
    omega
theorem cnt_all {l : List (List Int)} {V : Nat} (hl : ∀ c ∈ l, ∀ x ∈ c, x ≠ 0 ∧ x.natAbs ≤ V) : ∀ (n : Nat) (a : List Int), PosL a → a.length + n = V → cntF n ((a.length : Int) + 1) (redI l a) = (allF n l a).length
  | n, a, hp, hV => by
    by_cases he : emptyC (redI l a) = true
    · obtain ⟨c, c1, _, c3⟩ := empty_red.1 he
      rw [all_wrong n a hp ⟨c, c1, c3⟩]
      cases n <;> (unfold cntF; rw [if_pos he]; rfl)
    · by_cases h0 : (redI l a).length = 0
      · have hall : ∀ c ∈ l, trueI c a = true := fun c hc => Classical.byContradiction fun q => by
          have h1 := List.length_eq_zero_iff.1 h0
          unfold redI at h1
          have h2 := List.map_eq_nil_iff.1 h1
          have := List.filter_eq_nil_iff.1 h2 c hc
          simp at this
          exact q this
        rw [all_pow n a hall]
        cases n <;> (unfold cntF; rw [if_neg he, if_pos h0])
      · cases n with
        | zero =>
          exfalso
          have hall := all_full hl hp (by omega) (by simpa using he)
          refine h0 ?_
          unfold redI
          rw [List.length_map, List.filter_eq_nil_iff.2 fun c hc => by rw [List.all_eq_true.1 hall c hc]; decide]
          rfl
        | succ n =>
          have e : cntF (n + 1) ((a.length : Int) + 1) (redI l a) = cntF n ((a.length : Int) + 1 + 1) (asgI (redI l a) ((a.length : Int) + 1)) + cntF n ((a.length : Int) + 1 + 1) (asgI (redI l a) (-((a.length : Int) + 1))) := by
            conv => lhs; unfold cntF
            rw [if_neg he, if_neg h0]
          have h1 := cnt_all hl n (a ++ [(a.length : Int) + 1]) (hp.snoc (.inl rfl)) (by rw [List.length_append, List.length_singleton]; omega)
          have h2 := cnt_all hl n (a ++ [-((a.length : Int) + 1)]) (hp.snoc (.inr rfl)) (by rw [List.length_append, List.length_singleton]; omega)
          rw [List.length_append, List.length_singleton, red_snoc l (hp.new (.inl rfl)).2] at h1
          rw [List.length_append, List.length_singleton, red_snoc l (hp.new (.inr rfl)).2] at h2
          have hc : ((a.length + 1 : Nat) : Int) + 1 = (a.length : Int) + 1 + 1 := by omega
          rw [hc] at h1 h2
          rw [e, h1, h2]
          conv => rhs; unfold allF
          rw [List.length_append]
theorem count_same {l : List (List Int)} {V : Nat} (hl : ∀ c ∈ l, ∀ x ∈ c, x ≠ 0 ∧ x.natAbs ≤ V) : cntF V 1 l = (allF V l []).length := by
  have := cnt_all hl V [] (fun i x e => by simp at e) (by simp)
  rw [red_nil] at this
  exact this
end Go.Proofs.Ytpiidgcljlalmaa
namespace Go.Proofs.Ytpiidgcljlalmaa
open Go.RowKit
theorem all_mem {l : List (List Int)} {m : List Int} : ∀ (n : Nat) (a : List Int), PosL a → (m ∈ allF n l a ↔ (∃ t, m = a ++ t) ∧ m.length = a.length + n ∧ PosL m ∧ ∀ c ∈ l, trueI c m = true)
  | 0, a, hp => by
    unfold allF
    by_cases h : l.all (fun c => trueI c a) = true
    · rw [if_pos h, List.mem_singleton]
      constructor
      · rintro rfl
        exact ⟨⟨[], (List.append_nil _).symm⟩, rfl, hp, List.all_eq_true.1 h⟩
      · rintro ⟨⟨t, rfl⟩, h2, _⟩
        rw [List.length_append] at h2
        have : t = [] := List.length_eq_zero_iff.1 (by omega)
        rw [this, List.append_nil]
    · rw [if_neg h]
      constructor
      · intro q; cases q
      · rintro ⟨⟨t, rfl⟩, h2, _, h4⟩
        rw [List.length_append] at h2
        have : t = [] := List.length_eq_zero_iff.1 (by omega)
        rw [this, List.append_nil] at h4
        exact absurd (List.all_eq_true.2 h4) h
  | n + 1, a, hp => by
    unfold allF
    rw [List.mem_append, all_mem n _ (hp.snoc (.inl rfl)), all_mem n _ (hp.snoc (.inr rfl))]
    constructor
    · rintro (⟨⟨t, rfl⟩, h2, h3, h4⟩ | ⟨⟨t, rfl⟩, h2, h3, h4⟩)
      · exact ⟨⟨_ :: t, by rw [List.append_assoc]; rfl⟩, by rw [h2, List.length_append, List.length_singleton]; omega, h3, h4⟩
      · exact ⟨⟨_ :: t, by rw [List.append_assoc]; rfl⟩, by rw [h2, List.length_append, List.length_singleton]; omega, h3, h4⟩
    · rintro ⟨⟨t, rfl⟩, h2, h3, h4⟩
      rw [List.length_append] at h2
      match t, h2, h3, h4 with
      | [], h2, _, _ => simp at h2
      | x :: t, h2, h3, h4 =>
        have hx := h3 a.length x (by rw [List.getElem?_append_right (Nat.le_refl _), Nat.sub_self]; rfl)
        have hlen : (a ++ x :: t).length = (a ++ [x]).length + n := by
          simp only [List.length_append, List.length_cons, List.length_nil] at h2 ⊢
          omega
        rcases hx with rfl | rfl
        · exact .inl ⟨⟨t, by rw [List.append_assoc]; rfl⟩, hlen, h3, h4⟩
        · exact .inr ⟨⟨t, by rw [List.append_assoc]; rfl⟩, hlen, h3, h4⟩
theorem pos_nil : PosL [] := fun i x e => by simp at e
theorem model_mem {l : List (List Int)} {V : Nat} {m : List Int} : m ∈ allF V l [] ↔ m.length = V ∧ PosL m ∧ ∀ c ∈ l, trueI c m = true := by
  rw [all_mem V [] pos_nil]
  constructor
  · rintro ⟨_, h2, h3, h4⟩; exact ⟨by simpa using h2, h3, h4⟩
  · rintro ⟨h2, h3, h4⟩; exact ⟨⟨m, rfl⟩, by simpa using h2, h3, h4⟩
theorem pos_modl {V : Nat} {m : List Int} (hl : m.length = V) (hp : PosL m) : Modl V m where
  cons := fun x hx q => by
    obtain ⟨i, hi⟩ := List.mem_iff_getElem?.1 hx
    obtain ⟨j, hj⟩ := List.mem_iff_getElem?.1 q
    have h1 := hp i x hi
    have h2 := hp j (-x) hj
    have hij : i = j := by omega
    subst hij
    rw [hi] at hj
    have := Option.some.inj hj
    omega
  total := fun x hx hx2 => by
    have hi : x.natAbs - 1 < m.length := by omega
    have h1 := hp _ _ (List.getElem?_eq_getElem hi)
    have hm := List.getElem_mem hi
    rcases Int.natAbs_eq x with e | e
    · rcases h1 with h1 | h1
      · left; rw [show x = m[x.natAbs - 1] by omega]; exact hm
      · right; rw [show -x = m[x.natAbs - 1] by omega]; exact hm
    · rcases h1 with h1 | h1
      · right; rw [show -x = m[x.natAbs - 1] by omega]; exact hm
      · left; rw [show x = m[x.natAbs - 1] by omega]; exact hm
end Go.Proofs.Ytpiidgcljlalmaa
namespace Go.Proofs.Ytpiidgcljlalmaa
open Go.RowKit
theorem der_up {l : List (List Int)} {a : Int → Prop} {x : Int} (h : S43.Der l a x) : Der l a x := by
  induction h with
  | base q => exact .base q
  | step h1 h2 _ ih => exact .step h1 h2 ih
theorem conf_up {l : List (List Int)} {a : Int → Prop} (h : S43.Conf l a) : Conf l a := by
  obtain ⟨c, hc, h1⟩ := h
  exact ⟨c, hc, fun y hy => der_up (h1 y hy)⟩
theorem wf_of {V : Nat} {c o : List Int} (hp : o.Perm c) (hr : ∀ x ∈ c, x ≠ 0 ∧ x.natAbs ≤ V) (hd : c.Pairwise fun x y => x.natAbs ≠ y.natAbs) (hs : o.Pairwise fun x y => x.natAbs ≤ y.natAbs) : WfC V o where
  rng := fun x hx => hr x (hp.mem_iff.1 hx)
  inc := by
    have h1 := S43.dis_perm hp hd
    exact (hs.and h1).imp fun {a b} ⟨h2, h3⟩ => by omega
theorem gap_of {V : Nat} (hV : V ≤ 4096) : ∀ (p l : List (List Int)) (i : Nat), WfL V l → WfL V p → (∀ (j : Nat) (c : List Int), p[j]? = some c → Conf (l ++ p.take j) (negs c)) → gapF i l p = none
  | [], _, _, _, _, _ => rfl
  | c :: p, l, i, hl, hp, h => by
    have hc := hp c (by simp)
    have h0 : followsI l c = true := (followsI_iff hV hl hc).2 (by
      have := h 0 c rfl
      rwa [List.take_zero, List.append_nil] at this)
    unfold gapF
    rw [if_pos h0]
    exact gap_of hV p (l ++ [c]) (i + 1) (fun d hd => by
      rcases List.mem_append.1 hd with q | q
      · exact hl d q
      · rw [List.mem_singleton.1 q]; exact hc) (fun d hd => hp d (by simp [hd])) fun j d e => by
        have := h (j + 1) d e
        rwa [List.take_succ_cons, List.append_cons] at this
theorem refutes_of {V : Nat} (hV : V ≤ 4096) {cls learned : List (List Int)} (hl : WfL V cls) (hp : WfL V learned) (h1 : ∀ (i : Nat) (c : List Int), learned[i]? = some c → S43.Conf (cls ++ learned.take i) fun z => ∃ y ∈ c, z = -y) (h2 : S43.Conf (cls ++ learned) fun _ => False) :
    refutesI cls (learned ++ [[]]) = true := by
  have hn : WfC V [] := ⟨(fun x hx => by cases hx), List.Pairwise.nil⟩
  refine refutesI_iff.2 ⟨gap_of hV _ _ 0 hl (fun d hd => ?_) fun j c e => ?_, ?_⟩
  · rcases List.mem_append.1 hd with q | q
    · exact hp d q
    · rw [List.mem_singleton.1 q]; exact hn
  · rcases S43.app_last e with ⟨q1, q2⟩ | ⟨rfl, rfl⟩
    · rw [List.take_append_of_le_length (Nat.le_of_lt q1)]
      refine (conf_up (h1 j c q2)).mono (fun _ q => q) fun x => ?_
      rintro ⟨y, hy, rfl⟩
      show - -y ∈ c
      rw [Int.neg_neg]; exact hy
    · rw [List.take_append_of_le_length (Nat.le_refl _), List.take_length]
      exact (conf_up h2).mono (fun _ q => q) fun x q => q.elim
  · unfold lastBad
    rw [List.getLast?_append]
    rfl
end Go.Proofs.Ytpiidgcljlalmaa
namespace Go.Proofs.Ytpiidgcljlalmaa
open Go.RowKit
def unsB (V : Nat) (l : List (List Int)) : Bool := (allF V l []).isEmpty
end Go.Proofs.Ytpiidgcljlalmaa
namespace Go.Proofs.Ytpiidgcljlalmaa
open Go.RowKit
open S43 (RS GInv SatL blameS)
def modelS (V : Nat) (t : List Int) : List Int := t.foldl (fun o l => o.set (l.natAbs - 1) l) (List.replicate V 0)
theorem model_snoc {V : Nat} {t : List Int} {i : Nat} (h : i < t.length) : modelS V (t.take (i + 1)) = (modelS V (t.take i)).set ((t[i]).natAbs - 1) t[i] := by
  unfold modelS
  rw [List.take_succ_eq_append_getElem h, List.foldl_append]; rfl
theorem fold_len : ∀ (t : List Int) (o : List Int), (t.foldl (fun o l => o.set (l.natAbs - 1) l) o).length = o.length := by
  intro t
  induction t with
  | nil => intro o; rfl
  | cons a t ih => intro o; rw [List.foldl_cons, ih, List.length_set]
theorem model_len {V : Nat} (t : List Int) : (modelS V t).length = V := by
  unfold modelS
  rw [fold_len, List.length_replicate]
theorem fold_other {n : Nat} : ∀ (t : List Int) (o : List Int), (∀ y ∈ t, y.natAbs - 1 ≠ n) → (t.foldl (fun o l => o.set (l.natAbs - 1) l) o)[n]? = o[n]?
  | [], _, _ => rfl
  | a :: t, o, h => by
    rw [List.foldl_cons, fold_other t _ fun y hy => h y (by simp [hy]), List.getElem?_set, if_neg (h a (by simp))]
theorem fold_at {x : Int} : ∀ (t : List Int) (o : List Int), (t.Pairwise fun x y => x.natAbs ≠ y.natAbs) → (∀ y ∈ t, y ≠ 0) → x ∈ t → x.natAbs ≤ o.length → (t.foldl (fun o l => o.set (l.natAbs - 1) l) o)[x.natAbs - 1]? = some x
  | [], _, _, _, hx, _ => by cases hx
  | a :: t, o, hd, h0, hx, hl => by
    rw [List.foldl_cons]
    obtain ⟨d1, d2⟩ := List.pairwise_cons.1 hd
    have ha0 := h0 a (by simp)
    rcases List.mem_cons.1 hx with rfl | hx
    · rw [fold_other t _ fun y hy => by have := d1 y hy; have := h0 y (by simp [hy]); omega, List.getElem?_set, if_pos rfl, if_pos (by omega)]
    · exact fold_at t _ d2 (fun y hy => h0 y (by simp [hy])) hx (by rw [List.length_set]; exact hl)
theorem model_pos {V : Nat} {t : List Int} (hr : ∀ x ∈ t, x ≠ 0 ∧ x.natAbs ≤ V) (hd : t.Pairwise fun x y => x.natAbs ≠ y.natAbs) (hall : ∀ x : Int, x ≠ 0 → x.natAbs ≤ V → x ∈ t ∨ -x ∈ t) : PosL (modelS V t) ∧ ∀ x ∈ t, x ∈ modelS V t := by
  have key : ∀ x ∈ t, (modelS V t)[x.natAbs - 1]? = some x := fun x hx => fold_at t _ hd (fun y hy => (hr y hy).1) hx (by rw [List.length_replicate]; exact (hr x hx).2)
  refine ⟨fun i x e => ?_, fun x hx => List.mem_of_getElem? (key x hx)⟩
  have hi : i < V := by
    have := (List.getElem?_eq_some_iff.1 e).1
    rwa [model_len] at this
  rcases hall ((i : Int) + 1) (by omega) (by omega) with q | q
  · have := key _ q
    rw [show ((i : Int) + 1).natAbs - 1 = i by omega, e] at this
    exact .inl (Option.some.inj this)
  · have := key _ q
    rw [show (-((i : Int) + 1)).natAbs - 1 = i by omega, e] at this
    exact .inr (Option.some.inj this)
abbrev Srt (l : List Int) : Prop := l.Pairwise fun x y => x.natAbs ≤ y.natAbs
def RunR (V : Nat) (am : List Int) (cls : List S43.Cl) (k : Int) (res : List Int) (lr : List S43.Cl) : Prop :=
  (k = 2 ∧ res = [] ∧ ∃ r : RS, r.learned = lr ∧ GInv V am cls r ∧ S43.Conf (cls ++ lr) fun _ => False) ∨
  (k = 1 ∧ ∃ r : RS, r.learned = lr ∧ GInv V am cls r ∧ r.s.head = r.s.trail.length ∧ r.s.dead = false ∧ (∀ x : Int, x ≠ 0 → x.natAbs ≤ V → x ∈ r.s.trail ∨ -x ∈ r.s.trail) ∧ am.length ≤ r.s.begins.length ∧ res = modelS V r.s.trail) ∨
  (k = 2 ∧ ∃ (r : RS) (x : Int), r.learned = lr ∧ GInv V am cls r ∧ am[r.s.begins.length]? = some x ∧ -x ∈ r.s.trail ∧ res = blameS r.s am x)
section
variable {V : Nat} {am : List Int} {cls lr : List S43.Cl} {k : Int} {res : List Int}
theorem RunR.yes (h : RunR V am cls k res lr) (hk : k = 1) : res ∈ allF V cls [] ∧ ∀ x ∈ am, x ∈ res := by
  subst hk
  rcases h with ⟨h, _⟩ | ⟨_, r, _, hg, h1, h2, h3, h4, rfl⟩ | ⟨h, _⟩
  · cases h
  · obtain ⟨q1, q2⟩ := hg.yes h1 h2 h3 h4
    obtain ⟨p1, p2⟩ := model_pos hg.inv.trng hg.inv.tdis h3
    refine ⟨model_mem.2 ⟨model_len _, p1, fun c hc => ?_⟩, fun x hx => p2 x (q2 x hx)⟩
    obtain ⟨x, x1, x2⟩ := q1 c hc
    exact trueI_iff.2 ⟨x, x1, p2 x x2⟩
  · cases h
theorem sat_model {m : List Int} (hm : m ∈ allF V cls []) : (∀ x : Int, x ∈ m → ¬ -x ∈ m) ∧ (∀ x : Int, x ≠ 0 → x.natAbs ≤ V → x ∈ m ∨ -x ∈ m) ∧ SatL (· ∈ m) cls := by
  obtain ⟨h1, h2, h3⟩ := model_mem.1 hm
  have hM := pos_modl h1 h2
  exact ⟨hM.cons, hM.total, fun c hc => trueI_iff.1 (h3 c hc)⟩
theorem RunR.no (h : RunR V am cls k res lr) (hk : k = 2) : List.Sublist res am ∧ ∀ m ∈ allF V cls [], ¬ ∀ x ∈ res, x ∈ m := by
  subst hk
  rcases h with ⟨_, rfl, r, rfl, hg, h1⟩ | ⟨h, _⟩ | ⟨_, r, x, _, hg, h1, h2, rfl⟩
  · refine ⟨List.nil_sublist _, fun m hm _ => ?_⟩
    obtain ⟨m1, m2, m3⟩ := sat_model hm
    exact hg.no h1 (T := (· ∈ m)) m1 m2 m3
  · cases h
  · refine ⟨List.filter_sublist, fun m hm q => ?_⟩
    obtain ⟨m1, m2, m3⟩ := sat_model hm
    exact hg.core h1 h2 (T := (· ∈ m)) m1 m2 q m3
theorem RunR.is (h : RunR V am cls k res lr) : k = 1 ∨ k = 2 := by
  rcases h with ⟨h, _⟩ | ⟨h, _⟩ | ⟨h, _⟩
  · exact .inr h
  · exact .inl h
  · exact .inr h
theorem RunR.inv (h : RunR V am cls k res lr) : ∃ r : RS, r.learned = lr ∧ GInv V am cls r := by
  rcases h with ⟨_, _, r, h1, h2, _⟩ | ⟨_, r, h1, h2, _⟩ | ⟨_, r, _, h1, h2, _⟩
  · exact ⟨r, h1, h2⟩
  · exact ⟨r, h1, h2⟩
  · exact ⟨r, h1, h2⟩
theorem RunR.wf (h : RunR V am cls k res lr) (hs : ∀ c ∈ lr, Srt c) : WfL V lr := by
  obtain ⟨r, rfl, hg⟩ := h.inv
  intro c hc
  obtain ⟨c', c1, c2⟩ := hg.list.to c (List.mem_append.2 (.inr hc))
  exact wf_of c2.symm (hg.inv.rng c' c1) (hg.inv.dis c' c1) (hs c hc)
theorem RunR.len (h : RunR V am cls k res lr) : lr.length < 2 ^ (V + (am.length + V) + 1) := by
  obtain ⟨r, rfl, hg⟩ := h.inv
  exact Nat.lt_of_le_of_lt hg.cnt (S43.mu_lt hg.bl hg.tl)
structure SolveR (V : Nat) (l : List (List Int)) (v : Int) (m : List Int) (p : List (List Int)) : Prop where
  is : (v = 1 ∧ p = [] ∧ m ∈ allF V l []) ∨ (v = 2 ∧ m = [] ∧ p ≠ [] ∧ unsB V l = true ∧ Refut V l p ∧ p.length ≤ 2 ^ (2 * V + 1))
theorem RunR.solve_yes (h : RunR V [] cls 1 res lr) : SolveR V cls 1 res [] := ⟨.inl ⟨rfl, rfl, (h.yes rfl).1⟩⟩
theorem RunR.solve_no (hV : V ≤ 4096) (hc : WfL V cls) (h : RunR V [] cls 2 res lr) (hs : ∀ c ∈ lr, Srt c) : SolveR V cls 2 [] (lr ++ [[]]) := by
  have hw := h.wf hs
  have hno := h.no rfl
  have hr0 : res = [] := List.sublist_nil.1 hno.1
  have hl := h.len
  have hn : WfC V [] := ⟨(fun x hx => by cases hx), List.Pairwise.nil⟩
  refine ⟨.inr ⟨rfl, rfl, by simp, ?_, ?_, ?_⟩⟩
  · unfold unsB
    rw [List.isEmpty_iff]
    cases hm : allF V cls [] with
    | nil => rfl
    | cons m t => exact absurd (fun x hx => by rw [hr0] at hx; cases hx) (hno.2 m (by rw [hm]; simp))
  · rcases h with ⟨_, _, r, rfl, hg, h1⟩ | ⟨h, _⟩ | ⟨_, r, x, _, _, h1, _⟩
    · obtain ⟨o1, o2⟩ := refutesI_iff.1 (refutes_of hV hc hw hg.rup h1)
      exact ⟨hc, fun c hc' => (List.mem_append.1 hc').elim (hw c) fun q => by rw [List.mem_singleton.1 q]; exact hn, o1, o2⟩
    · cases h
    · simp at h1
  · rw [List.length_append, List.length_singleton]
    have : V + (([] : List Int).length + V) + 1 = 2 * V + 1 := by simp; omega
    rw [this] at hl
    omega
end
end Go.Proofs.Ytpiidgcljlalmaa
