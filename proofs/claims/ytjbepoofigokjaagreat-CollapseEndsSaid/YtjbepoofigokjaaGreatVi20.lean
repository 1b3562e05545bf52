/-
  Part 20 of the texts that the claims of this seat lean on: walks of the program's functions by contracts over symbolic frames, and plain laws of what they compute. No condition.
-/
import Derived.Test.YtjbepoofigokjaaGreatVi11
import Derived.Test.YtjbepoofigokjaaGreatVi12
import Derived.Test.YtjbepoofigokjaaGreatVi15
import Derived.Test.YtjbepoofigokjaaGreatVi17
import Derived.Test.YtjbepoofigokjaaGreatVi18
import Derived.Test.YtjbepoofigokjaaGreatVi19
set_option linter.unusedVariables false
set_option linter.unusedSimpArgs false
set_option linter.unusedSectionVars false
namespace Go.Proofs.YtjbepoofigokjaaGreat
theorem subsV_mem : ∀ (k : Nat) (s x : List Vx), x ∈ subsV k s ↔ x.Sublist s ∧ x.length = k
  | 0, s, x => by
    have : subsV 0 s = [[]] := by unfold subsV; rfl
    rw [this, List.mem_singleton]
    constructor
    · rintro rfl; exact ⟨List.nil_sublist _, rfl⟩
    · rintro ⟨_, h⟩; exact List.eq_nil_of_length_eq_zero h
  | k + 1, [], x => by
    simp only [subsV, List.not_mem_nil, List.sublist_nil, false_iff]
    rintro ⟨rfl, h⟩; simp at h
  | k + 1, v :: s, x => by
    unfold subsV
    rw [List.mem_append, List.mem_map, subsV_mem (k + 1) s x]
    constructor
    · rintro (⟨y, hy, rfl⟩ | ⟨h1, h2⟩)
      · obtain ⟨h1, h2⟩ := (subsV_mem k s y).1 hy
        exact ⟨h1.cons_cons v, by simp [h2]⟩
      · exact ⟨h1.cons v, h2⟩
    · rintro ⟨h1, h2⟩
      rcases List.sublist_cons_iff.1 h1 with h | ⟨y, rfl, h⟩
      · exact .inr ⟨h, h2⟩
      · exact .inl ⟨y, (subsV_mem k s y).2 ⟨h, by simpa using h2⟩, rfl⟩
theorem subsV_zero (s : List Vx) : (subsV 0 s).length = 1 := by unfold subsV; rfl
theorem subsV_next (k : Nat) (v : Vx) (s : List Vx) : (subsV (k + 1) (v :: s)).length = (subsV k s).length + (subsV (k + 1) s).length := by
  conv => lhs; unfold subsV
  rw [List.length_append, List.length_map]
theorem subsV_card : ∀ (s : List Vx) (k : Nat), (subsV (k + 1) s).length * (k + 1) + (subsV k s).length * k = (subsV k s).length * s.length
  | [], 0 => by simp [subsV]
  | [], k + 1 => by simp [subsV]
  | v :: s, 0 => by
    have := subsV_card s 0
    rw [subsV_next, subsV_zero, subsV_zero] at *
    simp only [List.length_cons]
    omega
  | v :: s, k + 1 => by
    have h1 := subsV_card s k
    have h2 := subsV_card s (k + 1)
    rw [subsV_next, subsV_next]
    generalize (subsV k s).length = a at *
    generalize (subsV (k + 1) s).length = b at *
    generalize (subsV (k + 1 + 1) s).length = c at *
    simp only [List.length_cons]
    generalize s.length = n at *
    simp only [Nat.mul_add, Nat.add_mul, Nat.mul_one] at *
    omega
theorem subsV_all : ∀ (s : List Vx), (subsV s.length s).length = 1
  | [] => rfl
  | v :: s => by
    rw [List.length_cons, subsV_next, subsV_all s, subsV_short (s.length + 1) s (by omega)]; rfl
theorem subsV_most {s : List Vx} {k : Nat} (h : s.length = k + 1) : (subsV k s).length = k + 1 := by
  have h1 := subsV_card s k
  have h2 := subsV_all s
  rw [h] at h1 h2
  rw [h2] at h1
  simp only [Nat.mul_add, Nat.mul_one, Nat.one_mul] at h1
  omega
theorem cmpL_cons (v : Vx) (a b : List Vx) : cmpL (v :: a) (v :: b) = cmpL a b := by
  conv => lhs; unfold cmpL
  rw [if_pos (cmpV_eq.2 rfl)]
theorem subsV_sorted : ∀ (k : Nat) (s : List Vx), Asc s → (subsV k s).Pairwise fun a b => cmpL a b = -1
  | 0, s, _ => by unfold subsV; exact List.pairwise_singleton _ _
  | k + 1, [], _ => by unfold subsV; exact List.Pairwise.nil
  | k + 1, v :: s, h => by
    obtain ⟨h1, h2⟩ := List.pairwise_cons.1 h
    unfold subsV
    rw [List.pairwise_append]
    refine ⟨List.pairwise_map.2 (List.Pairwise.imp (fun {a b} hab => by rw [cmpL_cons]; exact hab) (subsV_sorted k s h2)), subsV_sorted (k + 1) s h2, fun a ha b hb => ?_⟩
    obtain ⟨a', _, rfl⟩ := List.mem_map.1 ha
    obtain ⟨hb1, hb2⟩ := (subsV_mem _ _ _).1 hb
    match b, hb1, hb2 with
    | w :: b', hb1, _ =>
      have hw : w ∈ s := hb1.subset (by simp)
      have hvw := h1 w hw
      have := cmpV_range v w
      unfold cmpL
      rw [if_neg (by omega)]
      omega
theorem face_good {a s : List Vx} {k : Nat} (hs : chkV s = 0) (hk : 0 < k) (h : a ∈ subsV k s) : chkV a = 0 ∧ a.Sublist s ∧ a.length = k := by
  obtain ⟨h1, h2⟩ := (subsV_mem _ _ _).1 h
  exact ⟨sub_good hs h1 (ne_nil (by omega)), h1, h2⟩
theorem facesV_good {s : List Vx} (hs : chkV s = 0) {k : Nat} (h1 : 0 < k) (h2 : k ≤ s.length) : facesV s k = (subsV k s, 0) := by
  unfold facesV
  rw [if_neg (by simp [hs]), if_neg (by omega)]
  simp
end Go.Proofs.YtjbepoofigokjaaGreat
namespace Go.Proofs.YtjbepoofigokjaaGreat
theorem chkO_asc : ∀ (l : Cx) (p : Option (List Vx)), chkO p l = 0 → AscL l ∧ (∀ u, p = some u → ∀ s ∈ l, cmpL u s < 0) ∧ ∀ s ∈ l, chkV s = 0
  | [], p, _ => ⟨by simp [AscL], by simp, by simp⟩
  | s :: l, p, h => by
    unfold chkO at h
    by_cases h1 : chkV s ≠ 0
    · rw [if_pos h1] at h; exact absurd h h1
    rw [if_neg h1] at h
    have key : chkO (some s) l = 0 ∧ ∀ u, p = some u → cmpL u s < 0 := by
      cases p with
      | none => exact ⟨by simpa using h, fun u hu => by cases hu⟩
      | some u =>
        by_cases h2 : 0 ≤ cmpL u s
        · simp only [h2, decide_true, if_true] at h
          exact absurd h (by decide)
        · simp only [h2, decide_false, Bool.false_eq_true, if_false] at h
          exact ⟨h, fun u' hu => by cases hu; omega⟩
    obtain ⟨h3, h4, h5⟩ := chkO_asc l (some s) key.1
    have h6 := h4 s rfl
    refine ⟨List.pairwise_cons.2 ⟨h6, h3⟩, fun u hu x hx => ?_, fun x hx => ?_⟩
    · have h7 := key.2 u hu
      rcases List.mem_cons.1 hx with rfl | hx
      · exact h7
      · exact cmpL_lt_trans h7 (h6 x hx)
    · rcases List.mem_cons.1 hx with rfl | hx
      · omega
      · exact h5 x hx
theorem chkO_of : ∀ (l : Cx) (p : Option (List Vx)), AscL l → (∀ u, p = some u → ∀ s ∈ l, cmpL u s < 0) → (∀ s ∈ l, chkV s = 0) → chkO p l = 0
  | [], p, _, _, _ => rfl
  | s :: l, p, ha, hp, hc => by
    unfold chkO
    rw [if_neg (by have := hc s (by simp); omega), if_neg ?_]
    · unfold AscL at ha
      rw [List.pairwise_cons] at ha
      exact chkO_of l (some s) ha.2 (fun u hu x hx => by cases hu; exact ha.1 x hx) fun x hx => hc x (by simp [hx])
    · cases p with
      | none => simp
      | some u =>
        have := hp u rfl s (by simp)
        simp only [decide_eq_true_eq]; omega
theorem inside_lt {a b : List Vx} (ha : Asc a) (hb : Asc b) (h : insideV a b = true) (hne : a ≠ b) : a.length < b.length := by
  have hsub : ∀ x ∈ a, x ∈ b := fun x hx => by
    have := List.all_eq_true.1 h x hx
    simpa using this
  have e : sharedV b a true = a := asc_ext (asc_shared hb) ha fun x => by
    rw [mem_shared]
    constructor
    · intro ⟨_, h⟩; simpa using h
    · intro hx; exact ⟨hsub x hx, by simpa using hx⟩
  have hs : a.Sublist b := by rw [← e]; exact shared_sub
  rcases Nat.lt_or_ge a.length b.length with h1 | h1
  · exact h1
  · exact absurd (hs.eq_of_length_le h1) hne
theorem inside_le {a b : List Vx} (ha : Asc a) (hb : Asc b) (h : insideV a b = true) : a.length ≤ b.length := by
  by_cases e : a = b
  · rw [e]; exact Nat.le_refl _
  · exact Nat.le_of_lt (inside_lt ha hb h e)
theorem twice_any {l : Cx} (ha : AscL l) (hc : ∀ s ∈ l, chkV s = 0) : twiceC l = l.any fun s => coveredC l s := by
  have asc : ∀ s ∈ l, Asc s := fun s hs => (chkV_zero.1 (hc s hs)).2.2.2
  rw [Bool.eq_iff_iff]
  unfold twiceC
  simp only [List.any_eq_true, List.mem_range, Bool.and_eq_true, decide_eq_true_eq, coveredC_iff]
  constructor
  · rintro ⟨i, hi, k, hk, hne, h⟩
    rw [getD_at hi, getD_at hk] at h
    have hmi := List.getElem_mem hi
    have hmk := List.getElem_mem hk
    refine ⟨l[i], hmi, l[k], hmk, inside_lt (asc _ hmi) (asc _ hmk) h fun e => ?_, h⟩
    have hp := List.pairwise_iff_getElem.1 ha.nodup
    rcases Nat.lt_or_gt_of_ne hne with h1 | h1
    · exact hp i k hi hk h1 e
    · exact hp k i hk hi h1 e.symm
  · rintro ⟨s, hs, x, hx, hlt, h⟩
    obtain ⟨i, hi, rfl⟩ := List.getElem_of_mem hs
    obtain ⟨k, hk, rfl⟩ := List.getElem_of_mem hx
    exact ⟨i, hi, k, hk, fun e => by subst e; omega, by rw [getD_at hi, getD_at hk]; exact h⟩
def GoodX (l : Cx) : Prop := l.length ≤ 4096 ∧ AscL l ∧ (∀ s ∈ l, chkV s = 0) ∧ ∀ s ∈ l, coveredC l s = false
theorem goodX_iff {l : Cx} : chkC l = 0 ↔ GoodX l := by
  unfold GoodX
  constructor
  · intro h
    obtain ⟨h1, h2, h3, h4⟩ := chkC_good h
    obtain ⟨h5, _, h6⟩ := chkO_asc l none h2
    rw [twice_any h5 h6, List.any_eq_false] at h3
    exact ⟨h1, h5, h6, fun s hs => by simpa using h3 s hs⟩
  · rintro ⟨h1, h2, h3, h4⟩
    unfold chkC
    have h5 : chkO none l = 0 := chkO_of l none h2 (fun u hu => by cases hu) h3
    have h6 : twiceC l = false := by
      rw [twice_any h2 h3, List.any_eq_false]
      exact fun s hs => by simp [h4 s hs]
    rw [if_neg (by omega), if_neg (by omega), if_neg (by simp [h6])]
theorem good_max {l : Cx} (hc : ∀ s ∈ l, s.length ≠ 0 → chkV s = 0) (hl : (maxC l).length ≤ 4096) : GoodX (maxC l) := by
  refine ⟨hl, maxC_asc l, fun s hs => ?_, fun s hs => ?_⟩
  · obtain ⟨h1, h2⟩ := maxC_mem.1 hs
    unfold topC at h2
    simp only [Bool.and_eq_true, decide_eq_true_eq] at h2
    exact hc s h1 (by omega)
  · obtain ⟨h1, h2⟩ := maxC_mem.1 hs
    unfold topC at h2
    simp only [Bool.and_eq_true, decide_eq_true_eq, Bool.not_eq_true'] at h2
    rw [Bool.eq_false_iff]
    intro hcv
    obtain ⟨x, hx, hr⟩ := coveredC_iff.1 hcv
    have := coveredC_iff.2 ⟨x, (maxC_mem.1 hx).1, hr⟩
    rw [h2.2] at this
    cases this
theorem max_good {l : Cx} (h : GoodX l) : maxC l = l := by
  rw [← maxC_eq (zs := l) (fun s hs => by have := chkV_zero.1 (h.2.2.1 s hs); omega) h.2.1 fun u => Iff.rfl]
  rw [List.filter_eq_self]
  intro s hs; simp [h.2.2.2 s hs]
theorem allC_mem : ∀ {l : Cx} {k : Nat} {x : List Vx}, x ∈ allC l k ↔ ∃ f ∈ l, x ∈ subsV k f := by
  have go : ∀ (l out : Cx) (k : Nat) (x : List Vx), x ∈ l.foldl (fun out f => if f.length < k then out else (subsV k f).foldl putC out) out ↔ x ∈ out ∨ ∃ f ∈ l, x ∈ subsV k f := by
    intro l
    induction l with
    | nil => intro out k x; simp
    | cons f l ih =>
      intro out k x
      rw [List.foldl_cons, ih]
      have e : x ∈ (if f.length < k then out else (subsV k f).foldl putC out) ↔ x ∈ out ∨ x ∈ subsV k f := by
        split
        · rename_i h; rw [subsV_short k f h]; simp
        · rw [foldPut_mem]; exact or_comm
      rw [e]
      constructor
      · rintro ((h | h) | ⟨g, hg, h⟩)
        · exact .inl h
        · exact .inr ⟨f, by simp, h⟩
        · exact .inr ⟨g, by simp [hg], h⟩
      · rintro (h | ⟨g, hg, h⟩)
        · exact .inl (.inl h)
        · rcases List.mem_cons.1 hg with rfl | hg
          · exact .inl (.inr h)
          · exact .inr ⟨g, hg, h⟩
  intro l k x
  unfold allC
  rw [go]; simp
theorem allC_asc (l : Cx) (k : Nat) : AscL (allC l k) := by
  have go : ∀ (l out : Cx), AscL out → AscL (l.foldl (fun out f => if f.length < k then out else (subsV k f).foldl putC out) out) := by
    intro l
    induction l with
    | nil => intro out h; exact h
    | cons f l ih =>
      intro out h
      rw [List.foldl_cons]
      refine ih _ ?_
      split
      · exact h
      · exact foldPut_asc h
  exact go l [] (by simp [AscL])
def newC (out : Cx) (l : Cx) : Cx := l.foldl (fun out f => if f ∈ out then out else out ++ [f]) out
def facC (l : Cx) (k : Nat) : Cx := l.foldl (fun out f => if f.length < k then out else newC out (subsV k f)) []
theorem newC_snoc {out l : Cx} {j : Nat} (h : j < l.length) : newC out (l.take (j + 1)) = if l[j] ∈ newC out (l.take j) then newC out (l.take j) else newC out (l.take j) ++ [l[j]] := by
  unfold newC; rw [take_snoc' h, List.foldl_append]; rfl
theorem newC_mem : ∀ {l out : Cx} {x : List Vx}, x ∈ newC out l ↔ x ∈ out ∨ x ∈ l
  | [], out, x => by simp [newC]
  | f :: l, out, x => by
    show x ∈ newC (if f ∈ out then out else out ++ [f]) l ↔ _
    rw [newC_mem (l := l)]
    split
    · rename_i h
      rw [List.mem_cons]
      constructor
      · rintro (h1 | h1)
        · exact .inl h1
        · exact .inr (.inr h1)
      · rintro (h1 | h1 | h1)
        · exact .inl h1
        · rw [h1]; exact .inl h
        · exact .inr h1
    · rw [List.mem_append, List.mem_singleton, List.mem_cons, or_assoc]
theorem newC_nodup : ∀ {l out : Cx}, out.Nodup → (newC out l).Nodup
  | [], out, h => h
  | f :: l, out, h => by
    show (newC (if f ∈ out then out else out ++ [f]) l).Nodup
    refine newC_nodup (l := l) ?_
    split
    · exact h
    · rename_i hf
      rw [List.nodup_append]
      exact ⟨h, by simp, fun a ha b hb => by rw [List.mem_singleton.1 hb]; exact fun e => hf (e ▸ ha)⟩
theorem newC_len (l out : Cx) : out.length ≤ (newC out l).length ∧ (newC out l).length ≤ out.length + l.length := by
  induction l generalizing out with
  | nil => simp [newC]
  | cons f l ih =>
    have h := ih (if f ∈ out then out else out ++ [f])
    have e : newC out (f :: l) = newC (if f ∈ out then out else out ++ [f]) l := rfl
    rw [e]
    split at h <;> (simp only [List.length_append, List.length_cons, List.length_nil] at h ⊢; rename_i hf; first | rw [if_pos hf] | rw [if_neg hf]) <;> omega
theorem facC_snoc {l : Cx} {k i : Nat} (h : i < l.length) : facC (l.take (i + 1)) k = if l[i].length < k then facC (l.take i) k else newC (facC (l.take i) k) (subsV k l[i]) := by
  unfold facC; rw [take_snoc' h, List.foldl_append]; rfl
theorem facC_inv (l : Cx) (k : Nat) : ∀ n, n ≤ l.length → (facC (l.take n) k).Nodup ∧ ∀ x, x ∈ facC (l.take n) k ↔ x ∈ allC (l.take n) k
  | 0, _ => by simp [facC, allC]
  | n + 1, hn => by
    obtain ⟨h1, h2⟩ := facC_inv l k n (by omega)
    have h3 : ∀ x, x ∈ allC (l.take (n + 1)) k ↔ x ∈ allC (l.take n) k ∨ x ∈ subsV k l[n] := fun x => by
      rw [allC_mem, allC_mem, take_snoc' (by omega)]
      constructor
      · rintro ⟨f, hf, hx⟩
        rcases List.mem_append.1 hf with hf | hf
        · exact .inl ⟨f, hf, hx⟩
        · rw [List.mem_singleton.1 hf] at hx; exact .inr hx
      · rintro (⟨f, hf, hx⟩ | hx)
        · exact ⟨f, List.mem_append.2 (.inl hf), hx⟩
        · exact ⟨l[n], List.mem_append.2 (.inr (List.mem_singleton.2 rfl)), hx⟩
    rw [facC_snoc (by omega)]
    split
    · rename_i hs
      refine ⟨h1, fun x => ?_⟩
      rw [h3, h2, subsV_short k _ hs]; simp
    · refine ⟨newC_nodup h1, fun x => ?_⟩
      rw [h3, newC_mem, h2]
theorem facC_len (l : Cx) (k n : Nat) (hn : n ≤ l.length) : (facC (l.take n) k).length = (allC (l.take n) k).length := by
  obtain ⟨h1, h2⟩ := facC_inv l k n hn
  exact ((List.perm_ext_iff_of_nodup h1 (allC_asc _ k).nodup).2 h2).length_eq
theorem facC_mono {l : Cx} {k n : Nat} (hn : n ≤ l.length) : (facC (l.take n) k).length ≤ (allC l k).length := by
  obtain ⟨h1, h2⟩ := facC_inv l k n hn
  have hsub : ∀ x ∈ facC (l.take n) k, x ∈ allC l k := fun x hx => by
    obtain ⟨f, hf, hx⟩ := allC_mem.1 ((h2 x).1 hx)
    exact allC_mem.2 ⟨f, List.mem_of_mem_take hf, hx⟩
  have hp : (facC (l.take n) k).Perm ((allC l k).filter fun x => decide (x ∈ facC (l.take n) k)) :=
    (List.perm_ext_iff_of_nodup h1 ((allC_asc l k).nodup.filter _)).2 fun x => by
      rw [List.mem_filter, decide_eq_true_eq]
      exact ⟨fun hx => ⟨hsub x hx, hx⟩, fun hx => hx.2⟩
  rw [hp.length_eq]
  exact List.length_filter_le _ _
theorem sorted_all {l ys : Cx} {k : Nat} (hp : ys.Perm (facC l k)) (hs : SortL ys) : ys = allC l k := by
  have h := facC_inv l k l.length (Nat.le_refl _)
  rw [List.take_length] at h
  refine ascL_ext ?_ (allC_asc l k) fun x => by rw [hp.mem_iff]; exact h.2 x
  have hn : ys.Nodup := hp.nodup_iff.2 h.1
  refine List.Pairwise.imp₂ (fun a b h1 h2 => ?_) hs hn
  rcases cmpL_cases a b with h3 | h3 | h3
  · exact h3
  · exact absurd h3 h1
  · exact absurd h3 h2
end Go.Proofs.YtjbepoofigokjaaGreat
namespace Go.Proofs.YtjbepoofigokjaaGreat
open Go.RowKit
set_option linter.unusedSimpArgs false

set_option maxHeartbeats 2000000
set_option maxRecDepth 100000
section
variable {P : Program} {ops : Array Oper} {hp : List HObj} {fr : List Dat} {dst : Option Tmp} {ty : TypeId} {ps : String} {af : Array Edge} {g : Option (Nat × Bool)}
theorem SY.maxI {x y : Operand} {m n : Int} {ats : Array TypeId} (hx : OpD fr x (dI m)) (hy : OpD fr y (dI n)) : SY P ops hp { dst := dst, op := .call { callee := .builtin .max, args := #[x, y], argTypes := ats }, type := ty, pos := ps, after := af, guard := g } fr (dI (if m < n then n else m)) :=
  SY.val fun {I w a} ho => ⟨.int .i64 (if m < n then n else m), by
    have h1 : a.eval x = .int .i64 m := hx.get (by simp [Op.operands, Call.operands]) ho
    have h2 : a.eval y = .int .i64 n := hy.get (by simp [Op.operands, Call.operands]) ho
    unfold execOp
    simp [resolve, invoke, builtin, h1, h2, Builtin.max_, Builtin.max2], rfl⟩
end
end Go.Proofs.YtjbepoofigokjaaGreat
namespace Go.Proofs.YtjbepoofigokjaaGreat
theorem GoodX.asc {l : Cx} (h : GoodX l) : ∀ s ∈ l, Asc s := fun s hs => (chkV_zero.1 (h.2.2.1 s hs)).2.2.2
theorem around_eq {l : Cx} {s : List Vx} (h : ∀ f ∈ l, Asc f) (hs : Asc s) : l.filter (faceG s) = aroundC l s := List.filter_congr fun f hf => faceG_inside s f hs (h f hf)
theorem has_around {l : Cx} {s : List Vx} : hasC' l s = decide (0 < (aroundC l s).length) := by
  unfold hasC' aroundC
  rw [Bool.eq_iff_iff, List.any_eq_true, decide_eq_true_eq, List.length_pos_iff_exists_mem]
  constructor
  · rintro ⟨x, hx, h⟩; exact ⟨x, List.mem_filter.2 ⟨hx, h⟩⟩
  · rintro ⟨x, h⟩; exact ⟨x, (List.mem_filter.1 h).1, (List.mem_filter.1 h).2⟩
end Go.Proofs.YtjbepoofigokjaaGreat
namespace Go.Proofs.YtjbepoofigokjaaGreat
open Go.RowKit
set_option linter.unusedSimpArgs false

set_option maxHeartbeats 2000000
set_option maxRecDepth 100000
theorem cloneV_p (xs : List Vx) (hl : xs.length ≤ 1000) : Fn Tryz.prog 89 [dS Verts xs] (dS Verts xs) := by
  (refine Fn.intro1 Tryz.func89 rfl rfl ?_; simp only [Tryz.ntmps89, List.length_cons, List.length_nil, Nat.reduceAdd, Nat.reduceSub, List.replicate_succ, List.replicate_zero, List.cons_append, List.nil_append])
  ((repeat' (first |  (refine WL.openE 4 rfl fun b hb => ?_; dsimp only [z0, z1]) | (apply WL.opN; exact yF; dsimp only [setD, z0, z1]) | refine WL.nil ?_ | refine WC.seqK fun Kx hK => ?_ | (refine hK _ _ ?_; clear hK) | refine WC.region ?_ |  (apply WL.build0K elV RV (by decide); (intro _; dsimp only [setD, z0, z1]); all_goals (try infer_instance)) | ((first | apply WL.appK | apply WL.app1); (exact eD); exact OpD.t rfl; (exact oD); decide; (exact lD); (intro _; dsimp only [setD, z0, z1]); all_goals (try infer_instance)) | (apply WL.opN; (focus ((first | (apply SY.eqNil; exact OpD.t rfl; (exact fun _ _ _ h => nil_K h); exact len_K; exact eqNilV) | fail); all_goals infer_instance)); dsimp only [setD, z0, z1]) | (apply WC.cond; (exact oD); all_goals (intro h; try exact xD)) | refine WC.skip ?_ | refine WC.ret ?_ | refine ThenD.r ?_)); all_goals (first | ((repeat clear hK); (repeat clear Kx))))
  · rw [hb h]; (refine ⟨trivial, _, rfl, ?_⟩; exact fD)
  · rw [List.nil_append]; (refine ⟨trivial, _, rfl, ?_⟩; exact fD)
theorem ok_vx {s : List Vx} (h : chkV s = 0) : ∀ v ∈ s, okV v := fun v hv => by
  have := rngV_iff.1 ((chkV_zero.1 h).2.2.1 v hv)
  unfold okV is64
  omega
theorem contI_nodup {l : Cx} : ∀ n, n ≤ l.length → ((incC (l.take n)).map (·.1)).Nodup ∧ ∀ v, v ∈ (incC (l.take n)).map (·.1) → ∃ s ∈ l, v ∈ s := by
  have put : ∀ (m : List (Vx × List Int)) (v : Vx) (i : Int), (m.map (·.1)).Nodup → ((addI m v i).map (·.1)).Nodup ∧ ∀ u, u ∈ (addI m v i).map (·.1) → u = v ∨ u ∈ m.map (·.1) := by
    intro m v i hm
    unfold addI putM
    split
    · rename_i h
      have e : (m.map fun p => if p.1 = v then (v, (lookM m v).getD [] ++ [i]) else p).map (·.1) = m.map (·.1) := by
        rw [List.map_map]
        refine List.map_congr_left fun p _ => ?_
        show (if p.1 = v then (v, (lookM m v).getD [] ++ [i]) else p).1 = p.1
        split
        · rename_i h; exact h.symm
        · rfl
      rw [e]
      exact ⟨hm, fun u hu => .inr hu⟩
    · rename_i h
      rw [List.map_append]
      refine ⟨?_, fun u hu => ?_⟩
      · rw [List.nodup_append]
        refine ⟨hm, by simp, fun a ha b hb => ?_⟩
        have : b = v := by simpa using hb
        subst this
        intro hab
        subst hab
        obtain ⟨p, hp, hpv⟩ := List.mem_map.1 ha
        apply h
        unfold lookM
        rw [Option.isSome_map]
        rw [List.find?_isSome]
        exact ⟨p, hp, by simpa using hpv⟩
      · rcases List.mem_append.1 hu with hu | hu
        · exact .inr hu
        · exact .inl (by simpa using hu)
  have all : ∀ (s : List Vx) (m : List (Vx × List Int)) (i : Int), (m.map (·.1)).Nodup → ((incS m s i).map (·.1)).Nodup ∧ ∀ u, u ∈ (incS m s i).map (·.1) → u ∈ s ∨ u ∈ m.map (·.1) := by
    intro s
    induction s with
    | nil => intro m i hm; exact ⟨hm, fun u hu => .inr hu⟩
    | cons v s ih =>
      intro m i hm
      obtain ⟨h1, h2⟩ := put m v i hm
      obtain ⟨h3, h4⟩ := ih (addI m v i) i h1
      refine ⟨h3, fun u hu => ?_⟩
      rcases h4 u hu with h | h
      · exact .inl (by simp [h])
      · rcases h2 u h with h | h
        · exact .inl (by simp [h])
        · exact .inr h
  intro n
  induction n with
  | zero => intro _; exact ⟨by simp [incC], fun v hv => by simp [incC] at hv⟩
  | succ n ih =>
    intro hn
    obtain ⟨h1, h2⟩ := ih (by omega)
    rw [incC_snoc (by omega)]
    obtain ⟨h3, h4⟩ := all l[n] (incC (l.take n)) (n : Int) h1
    refine ⟨h3, fun v hv => ?_⟩
    rcases h4 v hv with h | h
    · exact ⟨l[n], List.getElem_mem _, h⟩
    · exact h2 v h
theorem incC_nodup (l : Cx) : ((incC l).map (·.1)).Nodup := by
  have := (contI_nodup (l := l) l.length (Nat.le_refl _)).1
  rwa [List.take_length] at this
theorem incC_ok {l : Cx} (h : ∀ s ∈ l, chkV s = 0) : ∀ p ∈ incC l, okV p.1 := fun p hp => by
  have := (contI_nodup (l := l) l.length (Nat.le_refl _)).2 p.1
  rw [List.take_length] at this
  obtain ⟨s, hs, hv⟩ := this (List.mem_map_of_mem hp)
  exact ok_vx (h s hs) _ hv
theorem isKV {x : Vx} : IsV (dS RV x) (kvV x) := ⟨fun _ _ _ h => h⟩
theorem pos_chk {s : List Vx} (h : chkV s = 0) : 0 < s.length := by have := chkV_zero.1 h; omega
theorem len_chk {s : List Vx} (h : chkV s = 0) : s.length ≤ 8 := by have := chkV_zero.1 h; omega
set_option maxHeartbeats 4000000 in
theorem complexOf_p (l : Cx) (hg : ∀ s ∈ l, chkV s = 0) (hl : l.length ≤ 1000000) : Fn Tryz.prog 65 [dS Simps l] (dS Cpx (maxC l)) := by
  (refine Fn.introC1 tyC Tryz.func65 rfl rfl ?_; simp only [Tryz.ntmps65, List.length_cons, List.length_nil, Nat.reduceAdd, Nat.reduceSub, List.replicate_succ, List.replicate_zero, List.cons_append, List.nil_append])
  (repeat' (first | ((first | apply WL.opN | apply WD.opN); exact yF; dsimp only [setD, z0, z1]) | refine WL.nil ?_ | refine WC.seqK fun Kx hK => ?_ | (refine hK _ _ ?_; clear hK) | refine WC.region ?_ |  (refine WL.alloc tzC (shape_C0 rfl) fun b2 => ?_; dsimp only [setD, z0, z1]) |  (refine WL.callC (hp1 := []) (caps := []) (clone_s l hl) Tryz.call74 OpD.f (by (exact aD)) ?_; rintro d' hp2 ⟨v, rfl, rfl⟩; dsimp only [setD, z0, z1, List.cons_append, List.nil_append]) |  (apply WL.sortS; exact OpD.t rfl; omega; intro ys hperm hsort; dsimp only [setD, z0, z1])))
  refine WL.callC (hp1 := [_]) (caps := []) (compact_s ys v hsort (by rw [hperm.length_eq]; omega)) Tryz.call103 OpD.f (ArgsD.cons (OpD.t rfl) (ArgsD.cons ⟨le_fun Tryz.call104 fun x : List Vx × List Vx => eqV_p x.1 x.2⟩ ArgsD.nil)) ?_
  rintro d' hp2 ⟨v2, zs, hzs, rfl, rfl⟩
  dsimp only [setD, z0, z1, List.cons_append, List.nil_append]
  (repeat' (first | ((first | apply WL.opN | apply WD.opN); exact yF; dsimp only [setD, z0, z1]) | refine WL.nil ?_ | refine WC.seqK fun Kx hK => ?_ | (refine hK _ _ ?_; clear hK) | refine WC.region ?_))
  refine WL.keep2 (s := 0) (t := 13) rfl rfl ?_
  dsimp only [z0, z1]
  have hzg : ∀ s ∈ zs, chkV s = 0 := fun s hs => hg s (hperm.mem_iff.1 ((hzs.2 s).1 hs))
  have hzl : zs.length ≤ 1000000 := by
    have h1 := hperm.length_eq
    have h2 : zs.length ≤ ys.length := List.Nodup.length_le_of_subset hzs.1.nodup fun x hx => (hzs.2 x).1 hx
    omega
  (repeat' (first | ((first | apply WL.opN | apply WD.opN); exact yF; dsimp only [setD, z0, z1]) | refine WL.nil ?_ | refine WC.seqK fun Kx hK => ?_ | (refine hK _ _ ?_; clear hK) | refine WC.region ?_ |  (refine WL.alloc tzC (shape_C0 rfl) fun b4 => ?_; dsimp only [setD, z0, z1]) | ((first | apply WL.opN | apply WD.opN); (focus ((first | (apply SY.call (incidence_p zs hzl (fun s hs => ok_vx (hzg s hs)) (fun s hs => Nat.le_trans (len_chk (hzg s hs)) (by decide))) Tryz.call67; (exact aD)) | exact yLen | fail); all_goals infer_instance)); dsimp only [setD, z0, z1]) | refine WC.block ?_))
  have hgood : zs.filter (fun s => !coveredC zs s) = maxC l := maxC_eq (fun s hs => pos_chk (hg s hs)) hzs.1 fun u => (hzs.2 u).trans hperm.mem_iff
  refine WC.nilRow 34 Verts ?_
  (refine WC.loopU (X := Nat × Value × Cx) (fun x => [(17, dI (x.1 : Int)), (6, dA), (18, dA), (19, dA), (20, dA), (21, dA), (22, dA), (23, dA), (24, dA), (25, dA), (26, dA), (27, dA), (28, dA), (29, dA), (30, dA), (31, dA), (32, dA), (33, dA), (34, dA), (35, dA), (36, dA), (37, dA)]) (fun x => (hRow x.2.1 34 Verts x.2.2 :: hC1 b4 24 x.2.1 :: hCell b2 24 1 true (dX (.agg #[.slice none 0 0])) :: [])) (fun x => zs.length - x.1) (fun x => x.1 ≤ zs.length ∧ x.2.2 = (zs.take x.1).filter (fun s => !coveredC zs s)) (0, .slice none 0 0, []) ?start ?frame0 ?objs0 ?round)
  case start => exact ⟨Nat.zero_le _, by simp⟩
  case frame0 => ((try dsimp only [upds, z0, z1]); repeat (first | exact LeF.nil | refine LeF.co (k := ?_)))
  case objs0 => rfl
  case round =>
    rintro ⟨k, v, o⟩ ⟨h1, h2⟩
    simp only at h1 h2
    have hol : o.length ≤ 1000000 := by
      have h3 := List.length_filter_le (fun s => !coveredC zs s) (zs.take k)
      rw [List.length_take, ← h2] at h3
      omega
    dsimp only [upds, z0, z1]
    ((repeat' (first |  (apply WC.drawTail 5; kernel_rfl; kernel_rfl; simp only [List.take_succ_cons, List.take_zero, List.drop_succ_cons, List.drop_zero]) | ((first | apply WL.opN | apply WD.opN); exact yF; dsimp only [setD, z0, z1]) | refine WL.nil ?_ | refine WD.nil ?_ | refine WC.seqK fun Kx hK => ?_ | (refine hK _ _ ?_; clear hK) | (refine Kont.skip ?_; clear hK) | refine WC.region ?_ |  (refine WL.perm (List.Perm.swap _ _ _) ?_; refine WL.storeC1 tySS (OpD.t rfl) (OpD.t rfl) (.head _) ?_; refine WL.perm (List.Perm.swap _ _ _) ?_; dsimp only [setD, z0, z1]) | ((first | apply WL.appK | apply WL.app1); (exact eD); exact OpD.t rfl; (exact oD); decide; (exact lD); (intro _; dsimp only [setD, z0, z1]); all_goals (try infer_instance)) | ((first | apply WL.opN | apply WD.opN); (focus ((first | (apply SY.ixKJ elV (OpD.t rfl) OpD.i 0 rfl; exact pos_chk (hzg _ (List.getElem_mem _))) | (refine SY.lookR (a0 := ([] : List Int)) mapT_inc keyT_V (OpD.t rfl) (OpD.t rfl) isKV (ok_vx (hzg _ (List.getElem_mem _)) _ (List.getElem_mem _)) (incC_ok hzg) (incC_nodup zs) (fun _ _ => Arr.nil')) | (apply SY.call (coveredP_p _ _ _ atM_bnd) Tryz.call68; (exact aD)) | (apply SY.fldX cpxT; exact OpD.t rfl) | (apply SY.loadC1 tySS; exact OpD.t rfl; exact .tail _ (.head _)) | (apply SY.call (cloneV_p _ (Nat.le_trans (len_chk (hzg _ (List.getElem_mem _))) (by decide))) Tryz.call89; (exact aD)) | exact yLss | exact yNot | exact yAdd | exact yIndexaddr | exact yBuildslice | fail); all_goals infer_instance)); dsimp only [setD, z0, z1]) | (apply WC.condD; (exact oD); all_goals (intro h; try exact xD)) | (apply WC.condNB; (exact oD); all_goals (intro h; try exact xD)) | refine WC.skip ?_ | refine WC.exit ?_ | refine WC.block ?_ | refine ThenD.n ?_)); all_goals (first | refine WL.id ?_ | ((repeat clear hK); (repeat clear Kx))))
    · rename_i h0 v'
      rw [anyCov hzg (hzg _ (List.getElem_mem (show k < zs.length by omega))) (List.getElem_mem _)] at h
      (refine ⟨(k + 1, v', o ++ [zs[k]]), ?_, by first | omega | (simp only; omega), rfl, ?_⟩; rotate_left; ((try dsimp only [upds, z0, z1]); repeat (first | exact LeF.nil | refine LeF.co (k := ?_))); (try dsimp only))
      refine ⟨by omega, ?_⟩
      show o ++ _ = _
      rw [filt_snoc (by omega), if_pos (by rw [h]; rfl), h2]
    · rw [anyCov hzg (hzg _ (List.getElem_mem (show k < zs.length by omega))) (List.getElem_mem _)] at h
      (refine ⟨(k + 1, v, o), ?_, by first | omega | (simp only; omega), rfl, ?_⟩; rotate_left; ((try dsimp only [upds, z0, z1]); repeat (first | exact LeF.nil | refine LeF.co (k := ?_))); (try dsimp only))
      refine ⟨by omega, ?_⟩
      show o = _
      rw [filt_snoc (by omega), if_neg (by rw [h]; decide), h2, List.append_nil]
    · rw [List.take_of_length_le (by omega), hgood] at h2
      subst h2
      refine WL.knowRow (.head _) _root_.id fun hv => ?_
      obtain ⟨ad, c, rfl⟩ := hv
      ((repeat' (first | refine WL.nil ?_ | (refine hK _ _ ?_; clear hK) |  (apply WL.storeF3 tyC; rfl; exact OpD.t rfl; exact shape_C0 rfl; dsimp only [setD, z0, z1]) | ((first | apply WL.opN | apply WD.opN); (focus ((first | (apply SY.loadH tyC; exact OpD.t rfl; exact .tail _ (.head _)) | fail); all_goals infer_instance)); dsimp only [setD, z0, z1]) | refine WC.ret ?_)); all_goals (first | ((repeat clear hK); (repeat clear Kx))))
      exact ⟨trivial, _, rfl, FinD.rowC (.head _)⟩
end Go.Proofs.YtjbepoofigokjaaGreat
namespace Go.Proofs.YtjbepoofigokjaaGreat
open Go.RowKit
set_option linter.unusedSimpArgs false

set_option maxHeartbeats 2000000
set_option maxRecDepth 100000
theorem any_take {l : Cx} {p : List Vx → Bool} {k : Nat} (h : k < l.length) : (l.take (k + 1)).any p = ((l.take k).any p || p l[k]) := by rw [take_snoc' h, List.any_append]; simp
set_option maxHeartbeats 4000000 in
theorem check_p (l : Cx) : Fn Tryz.prog 35 [dS Cpx l] (dI (chkC l)) := by
  (refine Fn.intro1 Tryz.func35 rfl rfl ?_; simp only [Tryz.ntmps35, List.length_cons, List.length_nil, Nat.reduceAdd, Nat.reduceSub, List.replicate_succ, List.replicate_zero, List.cons_append, List.nil_append])
  ((repeat' (first | ((first | apply WL.opN | apply WD.opN); exact yF; dsimp only [setD, z0, z1]) | refine WL.nil ?_ | refine WC.seqK fun Kx hK => ?_ | (refine hK _ _ ?_; clear hK) | refine WC.region ?_ | ((first | apply WL.opG | apply WD.op); (focus (first | exact wN | (apply SYG.yes; (exact wY); ((first | exact yGtr | exact yLen | exact yFieldaddr | exact yBox | fail); all_goals infer_instance)))); dsimp only [setD, z0, z1]) | (apply WC.condD; (exact oD); all_goals (intro h; try exact xD)) | refine WC.skip ?_ | refine WC.ret ?_ | refine WC.block ?_ | refine ThenD.r ?_)); all_goals (first | refine WC.id ?_ | ((repeat clear hK); (repeat clear Kx))))
  · (refine ⟨trivial, _, rfl, ?_⟩; refine FinD.i ?_)
    unfold chkC; rw [if_pos (by omega)]
  · have hs : chkC l = if chkO none l ≠ 0 then chkO none l else if twiceC l = true then 7 else 0 := by unfold chkC; rw [if_neg (by omega)]
    (refine WC.loopU (X := Nat) (fun k => [(16, dI (k : Int)), (2, dA), (3, dA), (4, dA), (5, dA), (17, dA), (18, dA), (19, dA), (20, dA), (21, dA), (22, dA), (23, dA), (24, dA), (25, dA), (26, dA), (27, dA), (28, dA), (29, dA), (30, dA), (31, dA), (32, dA), (33, dA), (34, dA), (35, dA), (36, dA), (37, dA), (38, dA), (39, dA)]) (fun k => []) (fun k => l.length - k) (fun k => k ≤ l.length ∧ chkO none l = chkO (l.take k).getLast? (l.drop k)) 0 ?start ?frame0 ?objs0 ?round)
    case start => exact ⟨Nat.zero_le _, rfl⟩
    case frame0 => ((try dsimp only [upds, z0, z1]); repeat (first | exact LeF.nil | refine LeF.co (k := ?_)))
    case objs0 => rfl
    case round =>
      rintro k ⟨h3, h4⟩
      dsimp only [upds, z0, z1]
      ((repeat' (first | ((first | apply WL.opN | apply WD.opN); exact yF; dsimp only [setD, z0, z1]) | refine WL.nil ?_ | refine WC.seqK fun Kx hK => ?_ | (refine hK _ _ ?_; clear hK) | (refine Kont.skip ?_; clear hK) | refine WC.region ?_ | ((first | apply WL.opG | apply WD.op); (focus (first | exact wN | (apply SYG.yes; (exact wY); ((first | (apply SY.call (cmpL_p _ _) Tryz.call66; (exact aD)) | (apply SY.call (chk_p _) Tryz.call47; (exact aD)) | (apply SY.ixJ elSi (OpD.t rfl) (OpD.t rfl) (k - 1); omega; omega) | exact yMove | exact yLss | exact yGtr | exact yGeq | exact yNeq | exact yAdd | exact ySub | exact yLoad | exact yIndexaddr | exact yFieldaddr | exact yPick | fail); all_goals infer_instance)))); dsimp only [setD, z0, z1]) | ((first | refine WL.caseP rfl rfl rfl (fun h => ?_) (fun h => ?_) | refine WL.caseN rfl rfl rfl (fun h => ?_) (fun h => ?_) | refine WL.caseB rfl rfl rfl (fun h => ?_) (fun h => ?_) | refine WD.caseP rfl rfl rfl (fun h => ?_) (fun h => ?_) | refine WD.caseN rfl rfl rfl (fun h => ?_) (fun h => ?_) | refine WD.caseB rfl rfl rfl (fun h => ?_) (fun h => ?_)) <;> (first | (exfalso; first | omega | contradiction) | (dsimp only [z0, z1]))) | (apply WC.condF; (exact oD); (with_reducible rfl)) | (apply WC.condD; (exact oD); all_goals (intro h; try exact xD)) | (apply WC.condN; (exact oD); all_goals (intro h; try exact xD)) | refine WC.skip ?_ | refine WC.ret ?_ | refine WC.exit ?_ | refine WC.block ?_ | refine ThenD.n ?_ | refine ThenD.r ?_ | refine InBlockD.r ?_)); all_goals (first | refine WL.id ?_ | ((repeat clear hK); (repeat clear Kx))))
      all_goals try (rw [chkO_drop l k (by omega)] at h4)
      · (refine ⟨trivial, _, rfl, ?_⟩; refine FinD.i ?_)
        rw [hs, h4, if_pos h, if_pos h]
      · (refine ⟨trivial, _, rfl, ?_⟩; refine FinD.i ?_)
        have h5 : ¬ chkV l[k] ≠ 0 := by omega
        rw [if_neg h5, lastC_take _ _ (by omega) (by omega), if_pos (by simpa using h)] at h4
        rw [hs, h4]; rfl
      · (refine ⟨k + 1, ?_, by first | omega | (simp only; omega), rfl, ?_⟩; rotate_left; ((try dsimp only [upds, z0, z1]); repeat (first | exact LeF.nil | refine LeF.co (k := ?_))); (try dsimp only))
        refine ⟨by omega, ?_⟩
        have h5 : ¬ chkV l[k] ≠ 0 := by omega
        rw [h4, if_neg h5, lastC_take _ _ (by omega) (by omega), if_neg (by simpa using h)]
      · (refine ⟨k + 1, ?_, by first | omega | (simp only; omega), rfl, ?_⟩; rotate_left; ((try dsimp only [upds, z0, z1]); repeat (first | exact LeF.nil | refine LeF.co (k := ?_))); (try dsimp only))
        refine ⟨by omega, ?_⟩
        have h5 : ¬ chkV l[k] ≠ 0 := by omega
        have h0 : (l.take k).getLast? = none := by
          have : k = 0 := by omega
          rw [this]; rfl
        rw [h4, if_neg h5, h0]
        rfl
      · rw [List.drop_of_length_le (by omega)] at h4
        have h4' : chkO none l = 0 := h4
        have hs' : chkC l = if twiceC l = true then 7 else 0 := by rw [hs, if_neg (by omega)]
        clear hs h4
        obtain ⟨ha, _, hg⟩ := chkO_asc l none h4'
        rw [twice_any ha hg] at hs'
        have hl1 : l.length ≤ 1000000 := by omega
        (repeat' (first | ((first | apply WL.opN | apply WD.opN); exact yF; dsimp only [setD, z0, z1]) | refine WL.nil ?_ | refine WC.seqK fun Kx hK => ?_ | (refine hK _ _ ?_; clear hK) | refine WC.region ?_ | ((first | apply WL.opG | apply WD.op); (focus (first | exact wN | (apply SYG.yes; (exact wY); ((first | (apply SY.call (incidence_p l hl1 (fun s hs => ok_vx (hg s hs)) (fun s hs => Nat.le_trans (len_chk (hg s hs)) (by decide))) Tryz.call67; (exact aD)) | exact yLen | exact yFieldaddr | fail); all_goals infer_instance)))); dsimp only [setD, z0, z1]) | refine WC.block ?_))
        (refine WC.loopU (X := Nat) (fun i => [(46, dI (i : Int)), (2, dA), (8, dA), (47, dA), (48, dA), (49, dA), (50, dA), (51, dA), (52, dA), (53, dA), (54, dA), (55, dA), (56, dA), (57, dA), (58, dA), (59, dA)]) (fun i => []) (fun i => l.length - i) (fun i => i ≤ l.length ∧ (l.take i).any (fun s => coveredC l s) = false) 0 ?start ?frame0 ?objs0 ?round)
        case start => exact ⟨Nat.zero_le _, rfl⟩
        case frame0 => ((try dsimp only [upds, z0, z1]); repeat (first | exact LeF.nil | refine LeF.co (k := ?_)))
        case objs0 => rfl
        case round =>
          rintro i ⟨h5, h6⟩
          dsimp only [upds, z0, z1]
          ((repeat' (first | ((first | apply WL.opN | apply WD.opN); exact yF; dsimp only [setD, z0, z1]) | refine WL.nil ?_ | refine WD.nil ?_ | refine WC.seqK fun Kx hK => ?_ | (refine hK _ _ ?_; clear hK) | (refine Kont.skip ?_; clear hK) | refine WC.region ?_ | (apply WC.draw; kernel_rfl; kernel_rfl) | ((first | apply WL.opG | apply WD.op); (focus (first | exact wN | (apply SYG.yes; (exact wY); ((first | (apply SY.ixKJ elV (OpD.t rfl) OpD.i 0 rfl; exact pos_chk (hg _ (List.getElem_mem _))) | (refine SY.lookR (a0 := ([] : List Int)) mapT_inc keyT_V (OpD.t rfl) (OpD.t rfl) isKV (ok_vx (hg _ (List.getElem_mem _)) _ (List.getElem_mem _)) (incC_ok hg) (incC_nodup l) (fun _ _ => Arr.nil')) | (apply SY.call (coveredP_p _ _ _ atM_bnd) Tryz.call68; (exact aD)) | exact yLss | exact yAdd | exact yIndexaddr | exact yFieldaddr | fail); all_goals infer_instance)))); dsimp only [setD, z0, z1]) | (apply WC.condD; (exact oD); all_goals (intro h; try exact xD)) | (apply WC.cond; (exact oD); all_goals (intro h; try exact xD)) | refine WC.skip ?_ | refine WC.ret ?_ | refine WC.exit ?_ | refine WC.block ?_ | refine ThenD.n ?_ | refine ThenD.r ?_ | refine InBlockD.r ?_)); all_goals (first | ((repeat clear hK); (repeat clear Kx))))
          · rw [anyCov hg (hg _ (List.getElem_mem (show i < l.length by omega))) (List.getElem_mem _)] at h
            (refine ⟨trivial, _, rfl, ?_⟩; refine FinD.i ?_)
            rw [hs', if_pos]
            exact List.any_eq_true.2 ⟨l[i], List.getElem_mem _, h⟩
          · rw [anyCov hg (hg _ (List.getElem_mem (show i < l.length by omega))) (List.getElem_mem _)] at h
            (refine ⟨i + 1, ?_, by first | omega | (simp only; omega), rfl, ?_⟩; rotate_left; ((try dsimp only [upds, z0, z1]); repeat (first | exact LeF.nil | refine LeF.co (k := ?_))); (try dsimp only))
            exact ⟨by omega, by rw [any_take (by omega), h6, h]; rfl⟩
          · rw [List.take_of_length_le (by omega)] at h6
            (refine ⟨trivial, _, rfl, ?_⟩; refine FinD.i ?_)
            rw [hs', if_neg (by rw [h6]; decide)]
end Go.Proofs.YtjbepoofigokjaaGreat
