/-
  The plain laws of layer 42 that are independent of the reference: refutations grow, hold and shrink. No program is named here.
-/
import Derived.Test.YtjifihfkoflbiaaLaw42
namespace Go.Proofs.Ytjifihfkoflbiaa
open Go.RowKit

theorem WL.append' {V : Nat} {l p : List (List Int)} (h : WL V l) (k : WL V p) : WL V (l ++ p) := fun c hc => (List.mem_append.1 hc).elim (h c) (k c)
theorem WL.one {V : Nat} {c : List Int} (h : WC V c) : WL V [c] := fun d hd => by rw [List.mem_singleton.1 hd]; exact h
theorem followsI_mono {V : Nat} (hV : V ≤ 4096) {l l' : List (List Int)} (hl : WL V l) (hl' : WL V l') {c : List Int} (hc : WC V c) (hs : ∀ x ∈ l, x ∈ l') (h : followsI l c = true) : followsI l' c = true :=
  (followsI_iff hV hl' hc).2 (((followsI_iff hV hl hc).1 h).mono hs fun _ h => h)
theorem gapF_mono {V : Nat} (hV : V ≤ 4096) : ∀ {p l l' : List (List Int)} {i j : Nat}, WL V l → WL V l' → WL V p → (∀ x ∈ l, x ∈ l') → gapF i l p = none → gapF j l' p = none
  | [], _, _, _, _, _, _, _, _, _ => rfl
  | c :: p, l, l', i, j, hl, hl', hp, hs, h => by
    have hc := hp c (by simp)
    simp only [gapF] at h ⊢
    split at h
    · rename_i hf
      rw [if_pos (followsI_mono hV hl hl' hc hs hf)]
      refine gapF_mono hV (hl.append' (WL.one hc)) (hl'.append' (WL.one hc)) (fun d hd => hp d (by simp [hd])) (fun x hx => ?_) h
      rcases List.mem_append.1 hx with hx | hx
      · exact List.mem_append.2 (.inl (hs x hx))
      · exact List.mem_append.2 (.inr hx)
    · cases h
theorem gapI_neg {l p : List (List Int)} : gapI l p < 0 ↔ gapF 0 l p = none ∧ lastBad p = false := by
  unfold gapI
  cases h : gapF 0 l p with
  | some i => simp
  | none =>
    cases hb : lastBad p with
    | true => simp
    | false => simp
theorem badI_none {vars : Int} : ∀ {p : List (List Int)} {i : Nat}, badI vars i p = none ↔ ∀ c ∈ p, clauseI vars none c = 0
  | [], i => by simp [badI]
  | c :: p, i => by
    simp only [badI]
    by_cases h : clauseI vars none c = 0
    · rw [if_neg (by simp [h]), badI_none]; simp [h]
    · rw [if_pos h]; simp [h]
theorem verifyI_zero {vars : Int} {l p : List (List Int)} (h1 : checkI vars l = 0) (h2 : p.length ≤ 32768) (h3 : badI vars 0 p = none) : verifyI vars l p = if 0 ≤ gapI l p then (gapI l p, 18) else (0, 0) := by
  unfold verifyI
  rw [if_neg (by simp [h1]), if_neg (by omega), h3]
theorem lastBad_cons {c : List Int} {p : List (List Int)} (h : p ≠ []) : lastBad (c :: p) = lastBad p := by
  unfold lastBad
  rw [List.getLast?_cons, List.getLast?_eq_some_getLast h]
  rfl
theorem lastBad_nil : lastBad [] = true := rfl

/-- a refutation, in plain words -/
structure Refut (V : Nat) (l p : List (List Int)) : Prop where
  wl : WL V l
  wp : WL V p
  ok : gapF 0 l p = none
  last : lastBad p = false

theorem grows_wide {V : Nat} (hV : V ≤ 4096) {l p : List (List Int)} (h : Refut V l p) {c : List Int} (hc : WC V c) : gapI (c :: l) p < 0 :=
  gapI_neg.2 ⟨gapF_mono hV h.wl (fun d hd => by rcases List.mem_cons.1 hd with rfl | hd; exact hc; exact h.wl d hd) h.wp (fun x hx => by simp [hx]) h.ok, h.last⟩
theorem grows_front {V : Nat} (hV : V ≤ 4096) {l p : List (List Int)} (h : Refut V l p) {c : List Int} (hc : WC V c) (hf : followsI l c = true) : gapI l (c :: p) < 0 := by
  have hne : p ≠ [] := fun e => by have := h.last; rw [e, lastBad_nil] at this; cases this
  refine gapI_neg.2 ⟨?_, by rw [lastBad_cons hne]; exact h.last⟩
  simp only [gapF]
  rw [if_pos hf]
  exact gapF_mono hV h.wl (h.wl.append' (WL.one hc)) h.wp (fun x hx => by simp [hx]) h.ok
theorem grows_not {l p : List (List Int)} {c : List Int} (hf : followsI l c = false) : gapI l (c :: p) = 0 := by
  unfold gapI
  simp only [gapF]
  rw [if_neg (by simp [hf])]
  rfl

/-! ### refutations hold -/

/-- a model: each variable by one sign -/
structure Modl (V : Nat) (m : List Int) : Prop where
  cons : ∀ x ∈ m, -x ∉ m
  total : ∀ x : Int, x ≠ 0 → x.natAbs ≤ V → x ∈ m ∨ -x ∈ m

theorem Der.holds {V : Nat} {l : List (List Int)} {a : Int → Prop} {m : List Int} (hm : Modl V m) (hl : ∀ c ∈ l, trueI c m = true) (ha : ∀ x, a x → x ∈ m) {x : Int} (h : Der l a x) : x ∈ m := by
  induction h with
  | base h => exact ha _ h
  | step hc _ _ ih =>
    rename_i c x _ _
    obtain ⟨z, hz, hzm⟩ := trueI_iff.1 (hl c hc)
    by_cases e : z = x
    · exact e ▸ hzm
    · exact absurd (ih z hz e) (hm.cons z hzm)
theorem follows_holds {V : Nat} (hV : V ≤ 4096) {l : List (List Int)} (hw : WL V l) {c : List Int} (hc : WC V c) {m : List Int} (hm : Modl V m) (hl : ∀ c ∈ l, trueI c m = true) (h : followsI l c = true) : trueI c m = true := by
  by_cases ht : trueI c m = true
  · exact ht
  · exfalso
    have hneg : ∀ y ∈ c, -y ∈ m := fun y hy => (hm.total y (hc.rng y hy).1 (hc.rng y hy).2).resolve_left fun h => ht (trueI_iff.2 ⟨y, hy, h⟩)
    obtain ⟨d, hd, h⟩ := (followsI_iff hV hw hc).1 h
    obtain ⟨z, hz, hzm⟩ := trueI_iff.1 (hl d hd)
    have := (h z hz).holds hm hl (fun x hx => by have := hneg _ hx; rwa [Int.neg_neg] at this)
    exact hm.cons z hzm this
theorem gapF_holds {V : Nat} (hV : V ≤ 4096) {m : List Int} (hm : Modl V m) : ∀ {p l : List (List Int)} {i : Nat}, WL V l → WL V p → (∀ c ∈ l, trueI c m = true) → gapF i l p = none → ∀ c ∈ p, trueI c m = true
  | [], _, _, _, _, _, _, c, hc => by cases hc
  | d :: p, l, i, hl, hp, ht, h, c, hc => by
    have hd := hp d (by simp)
    simp only [gapF] at h
    split at h
    · rename_i hf
      have htd := follows_holds hV hl hd hm ht hf
      rcases List.mem_cons.1 hc with rfl | hc
      · exact htd
      · refine gapF_holds hV hm (hl.append' (WL.one hd)) (fun d hd => hp d (by simp [hd])) (fun x hx => ?_) h c hc
        rcases List.mem_append.1 hx with hx | hx
        · exact ht x hx
        · rw [List.mem_singleton.1 hx]; exact htd
    · cases h
theorem refut_holds {V : Nat} (hV : V ≤ 4096) {l p : List (List Int)} (h : Refut V l p) {m : List Int} (hm : Modl V m) : ¬ ∀ c ∈ l, trueI c m = true := by
  intro hl
  have hall := gapF_holds hV hm h.wl h.wp hl h.ok
  have hlast := h.last
  unfold lastBad at hlast
  cases hp : p.getLast? with
  | none => rw [hp] at hlast; cases hlast
  | some c =>
    rw [hp] at hlast
    have hc0 : c = [] := by
      cases c with
      | nil => rfl
      | cons x c => simp at hlast
    subst hc0
    have := hall [] (List.mem_of_getLast? hp)
    simp [trueI] at this

/-! ### refutations shrink -/

theorem remI_append {α : Type} (A S : List α) (c : α) : remI (A ++ c :: S) A.length = A ++ S := by
  unfold remI
  have h1 : (A ++ c :: S).take A.length = A := by simp
  have h2 : (A ++ c :: S).drop (A.length + 1) = S := by
    rw [List.drop_append, List.drop_eq_nil_of_le (by omega)]
    simp
  rw [h1, h2]
/-- what is left has no element that could be left out: where 'ok' bears more elements in front -/
theorem prune_min {α : Type} {ok : List α → Bool} {Pr : α → Prop} {Q : List α → Prop} (hQ : ∀ c S, Q S → Q (c :: S))
    (hst : ∀ (A A' S : List α) (c : α), (∀ x ∈ A ++ c :: S, Pr x) → Q S → ok (A ++ c :: S) = true → List.Sublist A' A → ok (A' ++ S) = true → ok (A ++ S) = true) :
    ∀ (k : Nat) (A S : List α), A.length = k → (∀ x ∈ A ++ S, Pr x) → Q S → ok (A ++ S) = true → ∃ A', List.Sublist A' A ∧ prune ok k (A ++ S) = A' ++ S ∧ ok (A' ++ S) = true ∧ ∀ i, i < A'.length → ok (remI (A' ++ S) i) = false
  | 0, A, S, hA, _, _, h => by
    obtain rfl := List.eq_nil_of_length_eq_zero hA
    exact ⟨[], List.Sublist.refl _, rfl, h, fun i hi => absurd hi (Nat.not_lt_zero i)⟩
  | k + 1, A, S, hA, hpr, hq, h => by
    obtain ⟨A0, a, rfl⟩ : ∃ A0 a, A = A0 ++ [a] := by
      have hne : A ≠ [] := fun e => by rw [e] at hA; simp at hA
      exact ⟨A.dropLast, A.getLast hne, (List.dropLast_concat_getLast hne).symm⟩
    have hA0 : A0.length = k := by simpa using hA
    have e0 : A0 ++ [a] ++ S = A0 ++ a :: S := by simp
    have hrem : remI (A0 ++ [a] ++ S) k = A0 ++ S := by rw [e0, ← hA0]; exact remI_append A0 S a
    rw [e0] at hpr
    simp only [prune, hrem]
    cases hok : ok (A0 ++ S) with
    | true =>
      simp only [if_true]
      obtain ⟨A', h1, h2, h3, h4⟩ := prune_min hQ hst k A0 S hA0 (fun x hx => hpr x (by rcases List.mem_append.1 hx with hx | hx <;> simp [hx])) hq hok
      exact ⟨A', h1.trans (List.sublist_append_left _ _), h2, h3, h4⟩
    | false =>
      simp only [Bool.false_eq_true, if_false]
      rw [e0] at h ⊢
      obtain ⟨A', h1, h2, h3, h4⟩ := prune_min hQ hst k A0 (a :: S) hA0 hpr (hQ a S hq) h
      have e1 : A' ++ [a] ++ S = A' ++ a :: S := by simp
      refine ⟨A' ++ [a], List.Sublist.append h1 (List.Sublist.refl _), by rw [e1]; exact h2, by rw [e1]; exact h3, fun i hi => ?_⟩
      rw [e1]
      by_cases hi' : i < A'.length
      · exact h4 i hi'
      · have hie : i = A'.length := by simp at hi; omega
        subst hie
        rw [remI_append]
        cases hc : ok (A' ++ S) with
        | false => rfl
        | true => rw [hst A0 A' S a hpr hq h h1 hc] at hok; cases hok

theorem gapF_append {i : Nat} : ∀ {A S l : List (List Int)}, (gapF i l (A ++ S) = none ↔ gapF i l A = none ∧ gapF (i + A.length) (l ++ A) S = none)
  | [], S, l => by simp [gapF]
  | c :: A, S, l => by
    simp only [List.cons_append, gapF]
    by_cases h : followsI l c = true
    · rw [if_pos h, if_pos h, gapF_append (i := i + 1) (A := A)]
      rw [List.append_assoc, List.length_cons]
      have e : i + 1 + A.length = i + (A.length + 1) := by omega
      rw [e]; rfl
    · rw [if_neg h, if_neg h]; simp
theorem gapF_ix {i j : Nat} : ∀ {p l : List (List Int)}, gapF i l p = none ↔ gapF j l p = none
  | [], l => by simp [gapF]
  | c :: p, l => by
    simp only [gapF]
    by_cases h : followsI l c = true
    · rw [if_pos h, if_pos h, gapF_ix (i := i + 1) (j := j + 1)]
    · rw [if_neg h, if_neg h]; simp

theorem refutesI_iff {l p : List (List Int)} : refutesI l p = true ↔ gapF 0 l p = none ∧ lastBad p = false := by
  unfold refutesI
  rw [decide_eq_true_eq, gapI_neg]
theorem lastBad_append {A S : List (List Int)} (h : S ≠ []) : lastBad (A ++ S) = lastBad S := by
  induction A with
  | nil => rfl
  | cons c A ih => rw [List.cons_append, lastBad_cons (by simp [h]), ih]

/-- what a trimmed refutation is -/
theorem trim_facts {V : Nat} (hV : V ≤ 4096) {l p : List (List Int)} (h : Refut V l p) : Refut V l (trimI l p) ∧ List.Sublist (trimI l p) p ∧ ∀ i, i + 1 < (trimI l p).length → refutesI l (remI (trimI l p) i) = false := by
  have hne : p ≠ [] := fun e => by have := h.last; rw [e, lastBad_nil] at this; cases this
  have hp : p.dropLast ++ [p.getLast hne] = p := List.dropLast_concat_getLast hne
  have hlen : p.dropLast.length = p.length - 1 := List.length_dropLast
  obtain ⟨A', h1, h2, h3, h4⟩ := prune_min (ok := refutesI l) (Pr := WC V) (Q := fun S => S ≠ []) (fun c S _ => by simp) (fun A A' S c hpr hq ho hs ho' => by
      obtain ⟨o1, o2⟩ := refutesI_iff.1 ho
      obtain ⟨o3, o4⟩ := refutesI_iff.1 ho'
      have hA : WL V A := fun d hd => hpr d (by simp [hd])
      have hA' : WL V A' := fun d hd => hA d (hs.subset hd)
      have hS : WL V S := fun d hd => hpr d (by simp [hd])
      refine refutesI_iff.2 ⟨gapF_append.2 ⟨(gapF_append.1 o1).1, gapF_ix.1 (gapF_mono (i := 0 + A'.length) (j := 0) hV (h.wl.append' hA') (h.wl.append' hA) hS (fun x hx => ?_) (gapF_append.1 o3).2)⟩, ?_⟩
      · rcases List.mem_append.1 hx with hx | hx
        · exact List.mem_append.2 (.inl hx)
        · exact List.mem_append.2 (.inr (hs.subset hx))
      · rw [lastBad_append hq] at o4 ⊢; exact o4) (p.length - 1) p.dropLast [p.getLast hne] hlen (by rw [hp]; exact h.wp) (by simp) (by rw [hp]; exact refutesI_iff.2 ⟨h.ok, h.last⟩)
  rw [hp] at h2
  have e : trimI l p = A' ++ [p.getLast hne] := h2
  have hsub : List.Sublist (A' ++ [p.getLast hne]) p := by
    have := List.Sublist.append h1 (List.Sublist.refl [p.getLast hne])
    rwa [hp] at this
  rw [e]
  obtain ⟨o1, o2⟩ := refutesI_iff.1 h3
  exact ⟨⟨h.wl, fun d hd => h.wp d (hsub.subset hd), o1, o2⟩, hsub, fun i hi => h4 i (by simp at hi; exact hi)⟩

end Go.Proofs.Ytjifihfkoflbiaa
