/-
  Part 24 of the texts that the claims of this seat lean on: walks of the program's functions by contracts over symbolic frames, and plain laws of what they compute. No condition.
-/
import Derived.Test.YtgppfikidagfpaaGreatDoorVe11
import Derived.Test.YtgppfikidagfpaaGreatDoorVe22
import Derived.Test.YtgppfikidagfpaaGreatDoorVe23
set_option linter.unusedVariables false
set_option linter.unusedSimpArgs false
set_option linter.unusedSectionVars false
namespace Go.Proofs.YtgppfikidagfpaaGreatDoor
theorem subsV_mem : ∀ (k : Nat) (s x : List Vx), x ∈ subsV k s ↔ x.Sublist s ∧ x.length = k
  | 0, s, x => by
    have : subsV 0 s = [[]] := by unfold subsV; rfl
    rw [this, List.mem_singleton]
    constructor
    · rintro rfl; exact ⟨List.nil_sublist _, rfl⟩
    · rintro ⟨_, h⟩; exact List.eq_nil_of_length_eq_zero h
  | k + 1, [], x => by
    simp only [subsV, List.not_mem_nil, List.sublist_nil, false_iff]
    rintro ⟨rfl, h⟩; simp at h
  | k + 1, v :: s, x => by
    unfold subsV
    rw [List.mem_append, List.mem_map, subsV_mem (k + 1) s x]
    constructor
    · rintro (⟨y, hy, rfl⟩ | ⟨h1, h2⟩)
      · obtain ⟨h1, h2⟩ := (subsV_mem k s y).1 hy
        exact ⟨h1.cons_cons v, by simp [h2]⟩
      · exact ⟨h1.cons v, h2⟩
    · rintro ⟨h1, h2⟩
      rcases List.sublist_cons_iff.1 h1 with h | ⟨y, rfl, h⟩
      · exact .inr ⟨h, h2⟩
      · exact .inl ⟨y, (subsV_mem k s y).2 ⟨h, by simpa using h2⟩, rfl⟩
theorem subsV_zero (s : List Vx) : (subsV 0 s).length = 1 := by unfold subsV; rfl
theorem subsV_next (k : Nat) (v : Vx) (s : List Vx) : (subsV (k + 1) (v :: s)).length = (subsV k s).length + (subsV (k + 1) s).length := by
  conv => lhs; unfold subsV
  rw [List.length_append, List.length_map]
theorem subsV_card : ∀ (s : List Vx) (k : Nat), (subsV (k + 1) s).length * (k + 1) + (subsV k s).length * k = (subsV k s).length * s.length
  | [], 0 => by simp [subsV]
  | [], k + 1 => by simp [subsV]
  | v :: s, 0 => by
    have := subsV_card s 0
    rw [subsV_next, subsV_zero, subsV_zero] at *
    simp only [List.length_cons]
    omega
  | v :: s, k + 1 => by
    have h1 := subsV_card s k
    have h2 := subsV_card s (k + 1)
    rw [subsV_next, subsV_next]
    generalize (subsV k s).length = a at *
    generalize (subsV (k + 1) s).length = b at *
    generalize (subsV (k + 1 + 1) s).length = c at *
    simp only [List.length_cons]
    generalize s.length = n at *
    simp only [Nat.mul_add, Nat.add_mul, Nat.mul_one] at *
    omega
theorem subsV_all : ∀ (s : List Vx), (subsV s.length s).length = 1
  | [] => rfl
  | v :: s => by
    rw [List.length_cons, subsV_next, subsV_all s, subsV_short (s.length + 1) s (by omega)]; rfl
theorem subsV_most {s : List Vx} {k : Nat} (h : s.length = k + 1) : (subsV k s).length = k + 1 := by
  have h1 := subsV_card s k
  have h2 := subsV_all s
  rw [h] at h1 h2
  rw [h2] at h1
  simp only [Nat.mul_add, Nat.mul_one, Nat.one_mul] at h1
  omega
theorem cmpL_cons (v : Vx) (a b : List Vx) : cmpL (v :: a) (v :: b) = cmpL a b := by
  conv => lhs; unfold cmpL
  rw [if_pos (cmpV_eq.2 rfl)]
theorem subsV_sorted : ∀ (k : Nat) (s : List Vx), Asc s → (subsV k s).Pairwise fun a b => cmpL a b = -1
  | 0, s, _ => by unfold subsV; exact List.pairwise_singleton _ _
  | k + 1, [], _ => by unfold subsV; exact List.Pairwise.nil
  | k + 1, v :: s, h => by
    obtain ⟨h1, h2⟩ := List.pairwise_cons.1 h
    unfold subsV
    rw [List.pairwise_append]
    refine ⟨List.pairwise_map.2 (List.Pairwise.imp (fun {a b} hab => by rw [cmpL_cons]; exact hab) (subsV_sorted k s h2)), subsV_sorted (k + 1) s h2, fun a ha b hb => ?_⟩
    obtain ⟨a', _, rfl⟩ := List.mem_map.1 ha
    obtain ⟨hb1, hb2⟩ := (subsV_mem _ _ _).1 hb
    match b, hb1, hb2 with
    | w :: b', hb1, _ =>
      have hw : w ∈ s := hb1.subset (by simp)
      have hvw := h1 w hw
      have := cmpV_range v w
      unfold cmpL
      rw [if_neg (by omega)]
      omega
theorem face_good {a s : List Vx} {k : Nat} (hs : chkV s = 0) (hk : 0 < k) (h : a ∈ subsV k s) : chkV a = 0 ∧ a.Sublist s ∧ a.length = k := by
  obtain ⟨h1, h2⟩ := (subsV_mem _ _ _).1 h
  exact ⟨sub_good hs h1 (ne_nil (by omega)), h1, h2⟩
theorem facesV_good {s : List Vx} (hs : chkV s = 0) {k : Nat} (h1 : 0 < k) (h2 : k ≤ s.length) : facesV s k = (subsV k s, 0) := by
  unfold facesV
  rw [if_neg (by simp [hs]), if_neg (by omega)]
  simp
end Go.Proofs.YtgppfikidagfpaaGreatDoor
namespace Go.Proofs.YtgppfikidagfpaaGreatDoor
open Go.RowKit
set_option linter.unusedSimpArgs false

set_option maxHeartbeats 2000000
set_option maxRecDepth 100000
theorem any_snoc {n : Nat} {p : Nat → Bool} : (List.range (n + 1)).any p = ((List.range n).any p || p n) := by rw [List.range_succ, List.any_append]; simp
theorem any_yes {n k : Nat} {p : Nat → Bool} (hk : k < n) (h : p k = true) : (List.range n).any p = true := List.any_eq_true.2 ⟨k, List.mem_range.2 hk, h⟩
theorem getD_at {l : Cx} {k : Nat} (h : k < l.length) : l.getD k [] = l[k] := by simp [List.getD, h]
def dimC (l : Cx) : Int := l.foldl (fun m s => if m < (s.length : Int) - 1 then (s.length : Int) - 1 else m) (-1)
def sizeP (l : Cx) : Bool := (List.range l.length).all fun i => decide (i = 0) || decide (((l.getD i []).length : Int) - 1 = dimC (l.take i))
theorem dimC_snoc {l : Cx} {k : Nat} (h : k < l.length) : dimC (l.take (k + 1)) = if dimC (l.take k) < (l[k].length : Int) - 1 then (l[k].length : Int) - 1 else dimC (l.take k) := by
  unfold dimC; rw [take_snoc' h, List.foldl_append]; rfl
theorem chkO_all : ∀ (l : Cx) (p : Option (List Vx)), chkO p l = 0 → ∀ s ∈ l, chkV s = 0
  | [], _, _, s, hs => by simp at hs
  | x :: l, p, h, s, hs => by
    unfold chkO at h
    by_cases h1 : chkV x ≠ 0
    · rw [if_pos h1] at h; exact absurd h h1
    · rw [if_neg h1] at h
      rcases List.mem_cons.1 hs with rfl | hs
      · omega
      · refine chkO_all l (some x) ?_ s hs
        revert h
        split
        · intro h; omega
        · exact id
theorem chkC_good {l : Cx} (h : chkC l = 0) : l.length ≤ 4096 ∧ chkO none l = 0 ∧ twiceC l = false ∧ ∀ s ∈ l, chkV s = 0 := by
  unfold chkC at h
  by_cases h1 : 4096 < l.length
  · rw [if_pos h1] at h; omega
  rw [if_neg h1] at h
  by_cases h2 : chkO none l ≠ 0
  · rw [if_pos h2] at h; exact absurd h h2
  rw [if_neg h2] at h
  refine ⟨by omega, by omega, ?_, chkO_all l none (by omega)⟩
  cases h3 : twiceC l with
  | false => rfl
  | true => rw [h3, if_pos rfl] at h; omega
end Go.Proofs.YtgppfikidagfpaaGreatDoor
namespace Go.Proofs.YtgppfikidagfpaaGreatDoor
theorem chkO_asc : ∀ (l : Cx) (p : Option (List Vx)), chkO p l = 0 → AscL l ∧ (∀ u, p = some u → ∀ s ∈ l, cmpL u s < 0) ∧ ∀ s ∈ l, chkV s = 0
  | [], p, _ => ⟨by simp [AscL], by simp, by simp⟩
  | s :: l, p, h => by
    unfold chkO at h
    by_cases h1 : chkV s ≠ 0
    · rw [if_pos h1] at h; exact absurd h h1
    rw [if_neg h1] at h
    have key : chkO (some s) l = 0 ∧ ∀ u, p = some u → cmpL u s < 0 := by
      cases p with
      | none => exact ⟨by simpa using h, fun u hu => by cases hu⟩
      | some u =>
        by_cases h2 : 0 ≤ cmpL u s
        · simp only [h2, decide_true, if_true] at h
          exact absurd h (by decide)
        · simp only [h2, decide_false, Bool.false_eq_true, if_false] at h
          exact ⟨h, fun u' hu => by cases hu; omega⟩
    obtain ⟨h3, h4, h5⟩ := chkO_asc l (some s) key.1
    have h6 := h4 s rfl
    refine ⟨List.pairwise_cons.2 ⟨h6, h3⟩, fun u hu x hx => ?_, fun x hx => ?_⟩
    · have h7 := key.2 u hu
      rcases List.mem_cons.1 hx with rfl | hx
      · exact h7
      · exact cmpL_lt_trans h7 (h6 x hx)
    · rcases List.mem_cons.1 hx with rfl | hx
      · omega
      · exact h5 x hx
theorem chkO_of : ∀ (l : Cx) (p : Option (List Vx)), AscL l → (∀ u, p = some u → ∀ s ∈ l, cmpL u s < 0) → (∀ s ∈ l, chkV s = 0) → chkO p l = 0
  | [], p, _, _, _ => rfl
  | s :: l, p, ha, hp, hc => by
    unfold chkO
    rw [if_neg (by have := hc s (by simp); omega), if_neg ?_]
    · unfold AscL at ha
      rw [List.pairwise_cons] at ha
      exact chkO_of l (some s) ha.2 (fun u hu x hx => by cases hu; exact ha.1 x hx) fun x hx => hc x (by simp [hx])
    · cases p with
      | none => simp
      | some u =>
        have := hp u rfl s (by simp)
        simp only [decide_eq_true_eq]; omega
theorem inside_lt {a b : List Vx} (ha : Asc a) (hb : Asc b) (h : insideV a b = true) (hne : a ≠ b) : a.length < b.length := by
  have hsub : ∀ x ∈ a, x ∈ b := fun x hx => by
    have := List.all_eq_true.1 h x hx
    simpa using this
  have e : sharedV b a true = a := asc_ext (asc_shared hb) ha fun x => by
    rw [mem_shared]
    constructor
    · intro ⟨_, h⟩; simpa using h
    · intro hx; exact ⟨hsub x hx, by simpa using hx⟩
  have hs : a.Sublist b := by rw [← e]; exact shared_sub
  rcases Nat.lt_or_ge a.length b.length with h1 | h1
  · exact h1
  · exact absurd (hs.eq_of_length_le h1) hne
theorem twice_any {l : Cx} (ha : AscL l) (hc : ∀ s ∈ l, chkV s = 0) : twiceC l = l.any fun s => coveredC l s := by
  have asc : ∀ s ∈ l, Asc s := fun s hs => (chkV_zero.1 (hc s hs)).2.2.2
  rw [Bool.eq_iff_iff]
  unfold twiceC
  simp only [List.any_eq_true, List.mem_range, Bool.and_eq_true, decide_eq_true_eq, coveredC_iff]
  constructor
  · rintro ⟨i, hi, k, hk, hne, h⟩
    rw [getD_at hi, getD_at hk] at h
    have hmi := List.getElem_mem hi
    have hmk := List.getElem_mem hk
    refine ⟨l[i], hmi, l[k], hmk, inside_lt (asc _ hmi) (asc _ hmk) h fun e => ?_, h⟩
    have hp := List.pairwise_iff_getElem.1 ha.nodup
    rcases Nat.lt_or_gt_of_ne hne with h1 | h1
    · exact hp i k hi hk h1 e
    · exact hp k i hk hi h1 e.symm
  · rintro ⟨s, hs, x, hx, hlt, h⟩
    obtain ⟨i, hi, rfl⟩ := List.getElem_of_mem hs
    obtain ⟨k, hk, rfl⟩ := List.getElem_of_mem hx
    exact ⟨i, hi, k, hk, fun e => by subst e; omega, by rw [getD_at hi, getD_at hk]; exact h⟩
def GoodX (l : Cx) : Prop := l.length ≤ 4096 ∧ AscL l ∧ (∀ s ∈ l, chkV s = 0) ∧ ∀ s ∈ l, coveredC l s = false
theorem goodX_iff {l : Cx} : chkC l = 0 ↔ GoodX l := by
  unfold GoodX
  constructor
  · intro h
    obtain ⟨h1, h2, h3, h4⟩ := chkC_good h
    obtain ⟨h5, _, h6⟩ := chkO_asc l none h2
    rw [twice_any h5 h6, List.any_eq_false] at h3
    exact ⟨h1, h5, h6, fun s hs => by simpa using h3 s hs⟩
  · rintro ⟨h1, h2, h3, h4⟩
    unfold chkC
    have h5 : chkO none l = 0 := chkO_of l none h2 (fun u hu => by cases hu) h3
    have h6 : twiceC l = false := by
      rw [twice_any h2 h3, List.any_eq_false]
      exact fun s hs => by simp [h4 s hs]
    rw [if_neg (by omega), if_neg (by omega), if_neg (by simp [h6])]
theorem good_max {l : Cx} (hc : ∀ s ∈ l, s.length ≠ 0 → chkV s = 0) (hl : (maxC l).length ≤ 4096) : GoodX (maxC l) := by
  refine ⟨hl, maxC_asc l, fun s hs => ?_, fun s hs => ?_⟩
  · obtain ⟨h1, h2⟩ := maxC_mem.1 hs
    unfold topC at h2
    simp only [Bool.and_eq_true, decide_eq_true_eq] at h2
    exact hc s h1 (by omega)
  · obtain ⟨h1, h2⟩ := maxC_mem.1 hs
    unfold topC at h2
    simp only [Bool.and_eq_true, decide_eq_true_eq, Bool.not_eq_true'] at h2
    rw [Bool.eq_false_iff]
    intro hcv
    obtain ⟨x, hx, hr⟩ := coveredC_iff.1 hcv
    have := coveredC_iff.2 ⟨x, (maxC_mem.1 hx).1, hr⟩
    rw [h2.2] at this
    cases this
theorem allC_mem : ∀ {l : Cx} {k : Nat} {x : List Vx}, x ∈ allC l k ↔ ∃ f ∈ l, x ∈ subsV k f := by
  have go : ∀ (l out : Cx) (k : Nat) (x : List Vx), x ∈ l.foldl (fun out f => if f.length < k then out else (subsV k f).foldl putC out) out ↔ x ∈ out ∨ ∃ f ∈ l, x ∈ subsV k f := by
    intro l
    induction l with
    | nil => intro out k x; simp
    | cons f l ih =>
      intro out k x
      rw [List.foldl_cons, ih]
      have e : x ∈ (if f.length < k then out else (subsV k f).foldl putC out) ↔ x ∈ out ∨ x ∈ subsV k f := by
        split
        · rename_i h; rw [subsV_short k f h]; simp
        · rw [foldPut_mem]; exact or_comm
      rw [e]
      constructor
      · rintro ((h | h) | ⟨g, hg, h⟩)
        · exact .inl h
        · exact .inr ⟨f, by simp, h⟩
        · exact .inr ⟨g, by simp [hg], h⟩
      · rintro (h | ⟨g, hg, h⟩)
        · exact .inl (.inl h)
        · rcases List.mem_cons.1 hg with rfl | hg
          · exact .inl (.inr h)
          · exact .inr ⟨g, hg, h⟩
  intro l k x
  unfold allC
  rw [go]; simp
theorem allC_asc (l : Cx) (k : Nat) : AscL (allC l k) := by
  have go : ∀ (l out : Cx), AscL out → AscL (l.foldl (fun out f => if f.length < k then out else (subsV k f).foldl putC out) out) := by
    intro l
    induction l with
    | nil => intro out h; exact h
    | cons f l ih =>
      intro out h
      rw [List.foldl_cons]
      refine ih _ ?_
      split
      · exact h
      · exact foldPut_asc h
  exact go l [] (by simp [AscL])
def newC (out : Cx) (l : Cx) : Cx := l.foldl (fun out f => if f ∈ out then out else out ++ [f]) out
def facC (l : Cx) (k : Nat) : Cx := l.foldl (fun out f => if f.length < k then out else newC out (subsV k f)) []
theorem newC_snoc {out l : Cx} {j : Nat} (h : j < l.length) : newC out (l.take (j + 1)) = if l[j] ∈ newC out (l.take j) then newC out (l.take j) else newC out (l.take j) ++ [l[j]] := by
  unfold newC; rw [take_snoc' h, List.foldl_append]; rfl
theorem newC_mem : ∀ {l out : Cx} {x : List Vx}, x ∈ newC out l ↔ x ∈ out ∨ x ∈ l
  | [], out, x => by simp [newC]
  | f :: l, out, x => by
    show x ∈ newC (if f ∈ out then out else out ++ [f]) l ↔ _
    rw [newC_mem (l := l)]
    split
    · rename_i h
      rw [List.mem_cons]
      constructor
      · rintro (h1 | h1)
        · exact .inl h1
        · exact .inr (.inr h1)
      · rintro (h1 | h1 | h1)
        · exact .inl h1
        · rw [h1]; exact .inl h
        · exact .inr h1
    · rw [List.mem_append, List.mem_singleton, List.mem_cons, or_assoc]
theorem newC_nodup : ∀ {l out : Cx}, out.Nodup → (newC out l).Nodup
  | [], out, h => h
  | f :: l, out, h => by
    show (newC (if f ∈ out then out else out ++ [f]) l).Nodup
    refine newC_nodup (l := l) ?_
    split
    · exact h
    · rename_i hf
      rw [List.nodup_append]
      exact ⟨h, by simp, fun a ha b hb => by rw [List.mem_singleton.1 hb]; exact fun e => hf (e ▸ ha)⟩
theorem newC_len (l out : Cx) : out.length ≤ (newC out l).length ∧ (newC out l).length ≤ out.length + l.length := by
  induction l generalizing out with
  | nil => simp [newC]
  | cons f l ih =>
    have h := ih (if f ∈ out then out else out ++ [f])
    have e : newC out (f :: l) = newC (if f ∈ out then out else out ++ [f]) l := rfl
    rw [e]
    split at h <;> (simp only [List.length_append, List.length_cons, List.length_nil] at h ⊢; rename_i hf; first | rw [if_pos hf] | rw [if_neg hf]) <;> omega
theorem facC_snoc {l : Cx} {k i : Nat} (h : i < l.length) : facC (l.take (i + 1)) k = if l[i].length < k then facC (l.take i) k else newC (facC (l.take i) k) (subsV k l[i]) := by
  unfold facC; rw [take_snoc' h, List.foldl_append]; rfl
theorem facC_inv (l : Cx) (k : Nat) : ∀ n, n ≤ l.length → (facC (l.take n) k).Nodup ∧ ∀ x, x ∈ facC (l.take n) k ↔ x ∈ allC (l.take n) k
  | 0, _ => by simp [facC, allC]
  | n + 1, hn => by
    obtain ⟨h1, h2⟩ := facC_inv l k n (by omega)
    have h3 : ∀ x, x ∈ allC (l.take (n + 1)) k ↔ x ∈ allC (l.take n) k ∨ x ∈ subsV k l[n] := fun x => by
      rw [allC_mem, allC_mem, take_snoc' (by omega)]
      constructor
      · rintro ⟨f, hf, hx⟩
        rcases List.mem_append.1 hf with hf | hf
        · exact .inl ⟨f, hf, hx⟩
        · rw [List.mem_singleton.1 hf] at hx; exact .inr hx
      · rintro (⟨f, hf, hx⟩ | hx)
        · exact ⟨f, List.mem_append.2 (.inl hf), hx⟩
        · exact ⟨l[n], List.mem_append.2 (.inr (List.mem_singleton.2 rfl)), hx⟩
    rw [facC_snoc (by omega)]
    split
    · rename_i hs
      refine ⟨h1, fun x => ?_⟩
      rw [h3, h2, subsV_short k _ hs]; simp
    · refine ⟨newC_nodup h1, fun x => ?_⟩
      rw [h3, newC_mem, h2]
theorem facC_len (l : Cx) (k n : Nat) (hn : n ≤ l.length) : (facC (l.take n) k).length = (allC (l.take n) k).length := by
  obtain ⟨h1, h2⟩ := facC_inv l k n hn
  exact ((List.perm_ext_iff_of_nodup h1 (allC_asc _ k).nodup).2 h2).length_eq
theorem facC_mono {l : Cx} {k n : Nat} (hn : n ≤ l.length) : (facC (l.take n) k).length ≤ (allC l k).length := by
  obtain ⟨h1, h2⟩ := facC_inv l k n hn
  have hsub : ∀ x ∈ facC (l.take n) k, x ∈ allC l k := fun x hx => by
    obtain ⟨f, hf, hx⟩ := allC_mem.1 ((h2 x).1 hx)
    exact allC_mem.2 ⟨f, List.mem_of_mem_take hf, hx⟩
  have hp : (facC (l.take n) k).Perm ((allC l k).filter fun x => decide (x ∈ facC (l.take n) k)) :=
    (List.perm_ext_iff_of_nodup h1 ((allC_asc l k).nodup.filter _)).2 fun x => by
      rw [List.mem_filter, decide_eq_true_eq]
      exact ⟨fun hx => ⟨hsub x hx, hx⟩, fun hx => hx.2⟩
  rw [hp.length_eq]
  exact List.length_filter_le _ _
theorem sorted_all {l ys : Cx} {k : Nat} (hp : ys.Perm (facC l k)) (hs : SortL ys) : ys = allC l k := by
  have h := facC_inv l k l.length (Nat.le_refl _)
  rw [List.take_length] at h
  refine ascL_ext ?_ (allC_asc l k) fun x => by rw [hp.mem_iff]; exact h.2 x
  have hn : ys.Nodup := hp.nodup_iff.2 h.1
  refine List.Pairwise.imp₂ (fun a b h1 h2 => ?_) hs hn
  rcases cmpL_cases a b with h3 | h3 | h3
  · exact h3
  · exact absurd h3 h1
  · exact absurd h3 h2
end Go.Proofs.YtgppfikidagfpaaGreatDoor
namespace Go.Proofs.YtgppfikidagfpaaGreatDoor
open Go.RowKit
set_option linter.unusedSimpArgs false

set_option maxHeartbeats 2000000
set_option maxRecDepth 100000
section
variable {P : Program} {ops : Array Oper} {hp : List HObj} {fr : List Dat} {dst : Option Tmp} {ty : TypeId} {ps : String} {af : Array Edge} {g : Option (Nat × Bool)}
theorem SY.minI {x y : Operand} {m n : Int} {ats : Array TypeId} (hx : OpD fr x (dI m)) (hy : OpD fr y (dI n)) : SY P ops hp { dst := dst, op := .call { callee := .builtin .min, args := #[x, y], argTypes := ats }, type := ty, pos := ps, after := af, guard := g } fr (dI (if n < m then n else m)) :=
  SY.val fun {I w a} ho => ⟨.int .i64 (if n < m then n else m), by
    have h1 : a.eval x = .int .i64 m := hx.get (by simp [Op.operands, Call.operands]) ho
    have h2 : a.eval y = .int .i64 n := hy.get (by simp [Op.operands, Call.operands]) ho
    unfold execOp
    simp [resolve, invoke, builtin, h1, h2, Builtin.min_, Builtin.min2], rfl⟩
theorem SY.maxI {x y : Operand} {m n : Int} {ats : Array TypeId} (hx : OpD fr x (dI m)) (hy : OpD fr y (dI n)) : SY P ops hp { dst := dst, op := .call { callee := .builtin .max, args := #[x, y], argTypes := ats }, type := ty, pos := ps, after := af, guard := g } fr (dI (if m < n then n else m)) :=
  SY.val fun {I w a} ho => ⟨.int .i64 (if m < n then n else m), by
    have h1 : a.eval x = .int .i64 m := hx.get (by simp [Op.operands, Call.operands]) ho
    have h2 : a.eval y = .int .i64 n := hy.get (by simp [Op.operands, Call.operands]) ho
    unfold execOp
    simp [resolve, invoke, builtin, h1, h2, Builtin.max_, Builtin.max2], rfl⟩
end
def leastC (l : Cx) : Int := l.foldl (fun m s => if (s.length : Int) < m then (s.length : Int) else m) 8
def mostC (l : Cx) : Int := l.foldl (fun m s => if m < (s.length : Int) then (s.length : Int) else m) 0
theorem leastC_snoc {l : Cx} {k : Nat} (h : k < l.length) : leastC (l.take (k + 1)) = if (l[k].length : Int) < leastC (l.take k) then (l[k].length : Int) else leastC (l.take k) := by
  unfold leastC; rw [take_snoc' h, List.foldl_append]; rfl
theorem mostC_snoc {l : Cx} {k : Nat} (h : k < l.length) : mostC (l.take (k + 1)) = if mostC (l.take k) < (l[k].length : Int) then (l[k].length : Int) else mostC (l.take k) := by
  unfold mostC; rw [take_snoc' h, List.foldl_append]; rfl
def pureC (l : Cx) : Bool := decide (mostC l = 0) || decide (leastC l = mostC l)
theorem dimension_p (l : Cx) (hs : ∀ s ∈ l, s.length ≤ 1000) : Fn Tryz.prog 103 [dS Cpx l] (dT [dI (mostC l - 1), dB (pureC l)]) := by
  (refine Fn.intro2 Tryz.func103 rfl rfl ?_; simp only [Tryz.ntmps103, List.length_cons, List.length_nil, Nat.reduceAdd, Nat.reduceSub, List.replicate_succ, List.replicate_zero, List.cons_append, List.nil_append])
  (repeat' (first | (apply WL.opN; exact yF; dsimp only [setD, z0, z1]) | refine WL.nil ?_ | refine WC.seqK fun Kx hK => ?_ | (refine hK _ _ ?_; clear hK) | refine WC.region ?_ | (apply WL.opG; (focus (first | exact wN | (apply SYG.yes; (exact wY); ((first | exact yLen | exact yFieldaddr | exact yBox | fail); all_goals infer_instance)))); dsimp only [setD, z0, z1]) | refine WC.block ?_))
  (first | refine WC.know (t := 0) rfl le_K fun hl0 => ?_ | refine WC.know (t := 0) rfl le_A fun hl0 => ?_ | refine WC.know (t := 0) rfl le_C fun hl0 => ?_); simp only [maxLen] at hl0
  (refine WC.loopU (X := Nat × Int × Int) (fun x => [(11, dI (x.1 : Int)), (4, dI x.2.1), (5, dI x.2.2), (7, dA), (12, dA), (13, dA), (14, dA), (15, dA), (16, dA), (17, dA), (18, dA), (19, dA), (20, dA), (21, dA), (22, dA), (23, dA)]) (fun x => []) (fun x => l.length - x.1) (fun x => x.1 ≤ l.length ∧ x.2.1 = leastC (l.take x.1) ∧ x.2.2 = mostC (l.take x.1) ∧ 0 ≤ x.2.2 ∧ x.2.2 ≤ 1000) (0, 8, 0) ?start ?frame0 ?objs0 ?round)
  case start => exact ⟨Nat.zero_le _, rfl, rfl, by decide, by decide⟩
  case frame0 => ((try dsimp only [upds, z0, z1]); repeat (first | exact LeF.nil | refine LeF.co (k := ?_)))
  case objs0 => rfl
  case round =>
    rintro ⟨k, a, b⟩ ⟨h1, h2, h3, h4, h5⟩
    simp only at h1 h2 h3 h4 h5
    dsimp only [upds, z0, z1]
    ((repeat' (first | (apply WL.opN; exact yF; dsimp only [setD, z0, z1]) | refine WL.nil ?_ | refine WC.seqK fun Kx hK => ?_ | (refine hK _ _ ?_; clear hK) | (refine Kont.skip ?_; clear hK) | refine WC.region ?_ | (apply WL.opG; (focus (first | exact wN | (apply SYG.yes; (exact wY); ((first | (apply SY.minI; exact OpD.t rfl; exact OpD.t rfl) | (apply SY.maxI; exact OpD.t rfl; exact OpD.t rfl) | exact yMove | exact yLss | exact yEql | exact yAdd | exact ySub | exact yLen | exact yIndexaddr | exact yPick | fail); all_goals infer_instance)))); dsimp only [setD, z0, z1]) | ((first | refine WL.caseP rfl rfl rfl (fun h => ?_) (fun h => ?_) | refine WL.caseN rfl rfl rfl (fun h => ?_) (fun h => ?_) | refine WL.caseB rfl rfl rfl (fun h => ?_) (fun h => ?_)) <;> (first | (exfalso; first | omega | contradiction) | (dsimp only [z0, z1]))) | (apply WC.condD; (exact oD); all_goals (intro h; try exact xD)) | refine WC.skip ?_ | refine WC.ret ?_ | refine WC.exit ?_ | refine WC.block ?_ | refine ThenD.n ?_)); all_goals (first | ((repeat clear hK); (repeat clear Kx))))
    · (refine ⟨(k + 1, if (l[k].length : Int) < a then (l[k].length : Int) else a, if b < (l[k].length : Int) then (l[k].length : Int) else b), ?_, by first | omega | (simp only; omega), rfl, ?_⟩; rotate_left; ((try dsimp only [upds, z0, z1]); repeat (first | exact LeF.nil | refine LeF.co (k := ?_))); (try dsimp only))
      have h9 := hs _ (List.getElem_mem (show k < l.length by omega))
      refine ⟨by omega, ?_, ?_, ?_, ?_⟩
      · rw [leastC_snoc (by omega), ← h2]
      · rw [mostC_snoc (by omega), ← h3]
      · split <;> omega
      · split <;> omega
    all_goals rw [List.take_of_length_le (by omega)] at h2 h3
    · have e : pureC l = true := by unfold pureC; rw [← h3, decide_eq_true h]; rfl
      rw [e, ← h3]
      (refine ⟨trivial, ⟨_, rfl, ?_⟩, _, rfl, ?_⟩ <;> exact fD)
    · have e : pureC l = decide (a = b) := by unfold pureC; rw [← h3, ← h2, decide_eq_false h]; rfl
      rw [e, ← h3]
      (refine ⟨trivial, ⟨_, rfl, ?_⟩, _, rfl, ?_⟩ <;> exact fD)
end Go.Proofs.YtgppfikidagfpaaGreatDoor
namespace Go.Proofs.YtgppfikidagfpaaGreatDoor
open Go.RowKit
set_option linter.unusedSimpArgs false

set_option maxHeartbeats 2000000
set_option maxRecDepth 100000
def stepA (k : Nat) (out : Cx) (f : List Vx) : Cx := if f.length < k then out else (subsV k f).foldl putC out
theorem allC_eq (c : Cx) (k : Nat) : allC c k = c.foldl (stepA k) [] := rfl
theorem allC_snoc {l : Cx} {k i : Nat} (h : i < l.length) : allC (l.take (i + 1)) k = stepA k (allC (l.take i) k) l[i] := by
  rw [allC_eq, allC_eq, take_snoc' h, List.foldl_append]; rfl
theorem stepA_len {k : Nat} {out : Cx} {f : List Vx} (h : f.length ≤ 8) : (stepA k out f).length ≤ out.length + 256 := by
  unfold stepA
  split
  · omega
  · have h1 := foldPut_len (subsV k f) out
    have h2 := Nat.le_trans (subsV_len k f) (Nat.pow_le_pow_right (by decide) h : 2 ^ f.length ≤ 2 ^ 8)
    omega
theorem allC_len : ∀ (l : Cx) (k i : Nat), (∀ f ∈ l, f.length ≤ 8) → i ≤ l.length → (allC (l.take i) k).length ≤ 256 * i
  | l, k, 0, _, _ => by simp [allC]
  | l, k, i + 1, h, hi => by
    rw [allC_snoc (by omega)]
    have h1 := stepA_len (k := k) (out := allC (l.take i) k) (h _ (List.getElem_mem (show i < l.length by omega)))
    have h2 := allC_len l k i h (by omega)
    omega
def simplC (l : Cx) (k : Int) : Cx × Int := if chkC l ≠ 0 then ([], chkC l) else if k < 1 ∨ 8 < k then ([], 2) else if 4096 < (allC l k.toNat).length then ([], 17) else (allC l k.toNat, 0)
theorem tmod2 (k : Nat) : ((k : Int) + 1).tmod 2 = (((k + 1) % 2 : Nat) : Int) := by rw [Int.tmod_eq_emod_of_nonneg (by omega)]; omega
def eulS (l : Cx) : Nat → Int
  | 0 => 0
  | k + 1 => if (k + 1) % 2 = 1 then eulS l k + (allC l (k + 1)).length else eulS l k - (allC l (k + 1)).length
def eulC (l : Cx) : Int × Int := if chkC l ≠ 0 then (0, chkC l) else if (List.range 8).any (fun k => decide (4096 < (allC l (k + 1)).length)) = true then (0, 17) else (eulS l 8, 0)
theorem eulS_le (l : Cx) (h : ∀ k, (allC l k).length ≤ 2000000) : ∀ k, eulS l k ≤ 2000000 * k ∧ -(2000000 * (k : Int)) ≤ eulS l k
  | 0 => by simp [eulS]
  | k + 1 => by
    have h1 := eulS_le l h k
    have h2 := h (k + 1)
    unfold eulS
    split <;> omega
end Go.Proofs.YtgppfikidagfpaaGreatDoor
namespace Go.Proofs.YtgppfikidagfpaaGreatDoor
open Go.RowKit
set_option linter.unusedSimpArgs false

set_option maxHeartbeats 2000000
set_option maxRecDepth 100000
theorem dimC_le {l : Cx} (h : ∀ s ∈ l, s.length ≤ 8) : -1 ≤ dimC l ∧ dimC l ≤ 7 := by
  have go : ∀ (l : Cx) (m : Int), -1 ≤ m → m ≤ 7 → (∀ s ∈ l, s.length ≤ 8) → -1 ≤ l.foldl (fun m s => if m < (s.length : Int) - 1 then (s.length : Int) - 1 else m) m ∧ l.foldl (fun m s => if m < (s.length : Int) - 1 then (s.length : Int) - 1 else m) m ≤ 7 := by
    intro l
    induction l with
    | nil => intro m h1 h2 _; exact ⟨h1, h2⟩
    | cons s l ih =>
      intro m h1 h2 h
      have := h s (by simp)
      refine ih _ ?_ ?_ fun t ht => h t (by simp [ht])
      · dsimp only; split <;> omega
      · dsimp only; split <;> omega
  exact go l (-1) (by decide) (by decide) h
def oneC (l : Cx) (f : List Vx) : Bool := decide ((aroundC l f).length = 1)
def okC (l : Cx) (f : List Vx) : Bool := decide ((aroundC l f).length = 1) || decide ((aroundC l f).length = 2)
end Go.Proofs.YtgppfikidagfpaaGreatDoor
namespace Go.Proofs.YtgppfikidagfpaaGreatDoor
theorem GoodX.asc {l : Cx} (h : GoodX l) : ∀ s ∈ l, Asc s := fun s hs => (chkV_zero.1 (h.2.2.1 s hs)).2.2.2
theorem around_eq {l : Cx} {s : List Vx} (h : ∀ f ∈ l, Asc f) (hs : Asc s) : l.filter (faceG s) = aroundC l s := List.filter_congr fun f hf => faceG_inside s f hs (h f hf)
theorem has_around {l : Cx} {s : List Vx} : hasC' l s = decide (0 < (aroundC l s).length) := by
  unfold hasC' aroundC
  rw [Bool.eq_iff_iff, List.any_eq_true, decide_eq_true_eq, List.length_pos_iff_exists_mem]
  constructor
  · rintro ⟨x, hx, h⟩; exact ⟨x, List.mem_filter.2 ⟨hx, h⟩⟩
  · rintro ⟨x, h⟩; exact ⟨x, (List.mem_filter.1 h).1, (List.mem_filter.1 h).2⟩
theorem most_dim (l : Cx) : mostC l - 1 = dimC l := by
  have go : ∀ (l : Cx) (m : Int), l.foldl (fun m s => if m < (s.length : Int) then (s.length : Int) else m) m - 1 = l.foldl (fun m s => if m < (s.length : Int) - 1 then (s.length : Int) - 1 else m) (m - 1) := by
    intro l
    induction l with
    | nil => intro m; rfl
    | cons s l ih =>
      intro m
      rw [List.foldl_cons, List.foldl_cons, ih]
      congr 1
      split <;> split <;> omega
  exact go l 0
theorem most_max (l : Cx) : (∀ s ∈ l, (s.length : Int) ≤ mostC l) ∧ (mostC l = 0 ∨ ∃ s ∈ l, mostC l = s.length) := by
  have go : ∀ (l : Cx) (m : Int), m ≤ l.foldl (fun m s => if m < (s.length : Int) then (s.length : Int) else m) m ∧ (∀ s ∈ l, (s.length : Int) ≤ l.foldl (fun m s => if m < (s.length : Int) then (s.length : Int) else m) m) ∧
      (l.foldl (fun m s => if m < (s.length : Int) then (s.length : Int) else m) m = m ∨ ∃ s ∈ l, l.foldl (fun m s => if m < (s.length : Int) then (s.length : Int) else m) m = s.length) := by
    intro l
    induction l with
    | nil => intro m; simp
    | cons s l ih =>
      intro m
      rw [List.foldl_cons]
      obtain ⟨h1, h2, h3⟩ := ih (if m < (s.length : Int) then (s.length : Int) else m)
      refine ⟨by split at h1 <;> split <;> omega, fun x hx => ?_, ?_⟩
      · rcases List.mem_cons.1 hx with rfl | hx
        · split at h1 <;> split <;> omega
        · exact h2 x hx
      · rcases h3 with h3 | ⟨x, hx, h3⟩
        · rw [h3]
          split
          · exact .inr ⟨s, by simp, rfl⟩
          · exact .inl rfl
        · exact .inr ⟨x, by simp [hx], h3⟩
  exact ⟨(go l 0).2.1, (go l 0).2.2⟩
theorem least_min (l : Cx) : (∀ s ∈ l, leastC l ≤ (s.length : Int)) ∧ (leastC l = 8 ∨ ∃ s ∈ l, leastC l = s.length) := by
  have go : ∀ (l : Cx) (m : Int), l.foldl (fun m s => if (s.length : Int) < m then (s.length : Int) else m) m ≤ m ∧ (∀ s ∈ l, l.foldl (fun m s => if (s.length : Int) < m then (s.length : Int) else m) m ≤ (s.length : Int)) ∧
      (l.foldl (fun m s => if (s.length : Int) < m then (s.length : Int) else m) m = m ∨ ∃ s ∈ l, l.foldl (fun m s => if (s.length : Int) < m then (s.length : Int) else m) m = s.length) := by
    intro l
    induction l with
    | nil => intro m; simp
    | cons s l ih =>
      intro m
      rw [List.foldl_cons]
      obtain ⟨h1, h2, h3⟩ := ih (if (s.length : Int) < m then (s.length : Int) else m)
      refine ⟨by split at h1 <;> split <;> omega, fun x hx => ?_, ?_⟩
      · rcases List.mem_cons.1 hx with rfl | hx
        · split at h1 <;> split <;> omega
        · exact h2 x hx
      · rcases h3 with h3 | ⟨x, hx, h3⟩
        · rw [h3]
          split
          · exact .inr ⟨s, by simp, rfl⟩
          · exact .inl rfl
        · exact .inr ⟨x, by simp [hx], h3⟩
  exact ⟨(go l 8).2.1, (go l 8).2.2⟩
theorem pureC_iff {l : Cx} (h8 : ∀ s ∈ l, s.length ≠ 0 ∧ s.length ≤ 8) : pureC l = true ↔ ∀ s ∈ l, ∀ t ∈ l, s.length = t.length := by
  obtain ⟨m1, m2⟩ := most_max l
  obtain ⟨n1, n2⟩ := least_min l
  unfold pureC
  simp only [Bool.or_eq_true, decide_eq_true_eq]
  constructor
  · rintro (h | h) s hs t ht
    · have := m1 s hs; have := h8 s hs; omega
    · have := m1 s hs; have := m1 t ht; have := n1 s hs; have := n1 t ht; omega
  · intro h
    rcases m2 with m2 | ⟨s, hs, m2⟩
    · exact .inl m2
    · right
      rcases n2 with n2 | ⟨t, ht, n2⟩
      · have := n1 s hs; have := h8 s hs; omega
      · rw [m2, n2, h s hs t ht]
theorem sizeP_iff {l : Cx} : sizeP l = true ↔ ∀ s ∈ l, ∀ t ∈ l, s.length = t.length := by
  unfold sizeP
  rw [List.all_eq_true]
  simp only [List.mem_range, Bool.or_eq_true, decide_eq_true_eq]
  constructor
  · intro h
    have key : ∀ n, n ≤ l.length → 0 < n → ∀ (h0 : 0 < l.length), dimC (l.take n) = (l[0].length : Int) - 1 ∧ ∀ (i : Nat) (hi : i < l.length), i < n → l[i].length = l[0].length := by
      intro n
      induction n with
      | zero => intro _ h; omega
      | succ n ih =>
        intro hn _ h0
        by_cases hz : n = 0
        · subst hz
          refine ⟨?_, fun i hi hi1 => ?_⟩
          · rw [dimC_snoc (by omega)]
            simp [dimC]; omega
          · have : i = 0 := by omega
            subst this; rfl
        · obtain ⟨h1, h2⟩ := ih (by omega) (by omega) h0
          have h3 := h n (by omega)
          rcases h3 with h3 | h3
          · omega
          · rw [getD_at (by omega), h1] at h3
            refine ⟨?_, fun i hi hi1 => ?_⟩
            · rw [dimC_snoc (by omega), h1, h3, if_neg (by omega)]
            · by_cases hin : i = n
              · subst hin; omega
              · exact h2 i hi (by omega)
    intro s hs t ht
    obtain ⟨i, hi, rfl⟩ := List.getElem_of_mem hs
    obtain ⟨j, hj, rfl⟩ := List.getElem_of_mem ht
    obtain ⟨_, h2⟩ := key l.length (Nat.le_refl _) (by omega) (by omega)
    rw [h2 i hi hi, h2 j hj hj]
  · intro h i hi
    by_cases hz : i = 0
    · exact .inl hz
    · right
      rw [getD_at hi, ← most_dim]
      obtain ⟨m1, m2⟩ := most_max (l.take i)
      have h0 : l[0]'(by omega) ∈ l.take i := by rw [List.mem_take_iff_getElem]; exact ⟨0, by omega, rfl⟩
      rcases m2 with m2 | ⟨t, ht, m2⟩
      · have h1 := m1 _ h0
        have h2 := h l[i] (List.getElem_mem hi) (l[0]'(by omega)) (List.getElem_mem _)
        rw [m2]; omega
      · have h2 := h l[i] (List.getElem_mem hi) t (List.mem_of_mem_take ht)
        rw [m2, h2]
theorem pure_size {l : Cx} (h : ∀ s ∈ l, chkV s = 0) : pureC l = sizeP l := by
  rw [Bool.eq_iff_iff, pureC_iff (fun s hs => by have := chkV_zero.1 (h s hs); omega), sizeP_iff]
end Go.Proofs.YtgppfikidagfpaaGreatDoor
