/-
  Part 24 of the texts that the claims of this seat lean on: walks of the program's functions by contracts over symbolic frames, and plain laws of what they compute. No condition.
-/
import Derived.Test.YtkedmlandjlogaaGreatVc16
import Derived.Test.YtkedmlandjlogaaGreatVc20
import Derived.Test.YtkedmlandjlogaaGreatVc22
import Derived.Test.YtkedmlandjlogaaGreatVc23
set_option linter.unusedVariables false
set_option linter.unusedSimpArgs false
set_option linter.unusedSectionVars false
namespace Go.Proofs.YtkedmlandjlogaaGreat
theorem chkO_asc : ∀ (l : Cx) (p : Option (List Vx)), chkO p l = 0 → AscL l ∧ (∀ u, p = some u → ∀ s ∈ l, cmpL u s < 0) ∧ ∀ s ∈ l, chkV s = 0
  | [], p, _ => ⟨by simp [AscL], by simp, by simp⟩
  | s :: l, p, h => by
    unfold chkO at h
    by_cases h1 : chkV s ≠ 0
    · rw [if_pos h1] at h; exact absurd h h1
    rw [if_neg h1] at h
    have key : chkO (some s) l = 0 ∧ ∀ u, p = some u → cmpL u s < 0 := by
      cases p with
      | none => exact ⟨by simpa using h, fun u hu => by cases hu⟩
      | some u =>
        by_cases h2 : 0 ≤ cmpL u s
        · simp only [h2, decide_true, if_true] at h
          exact absurd h (by decide)
        · simp only [h2, decide_false, Bool.false_eq_true, if_false] at h
          exact ⟨h, fun u' hu => by cases hu; omega⟩
    obtain ⟨h3, h4, h5⟩ := chkO_asc l (some s) key.1
    have h6 := h4 s rfl
    refine ⟨List.pairwise_cons.2 ⟨h6, h3⟩, fun u hu x hx => ?_, fun x hx => ?_⟩
    · have h7 := key.2 u hu
      rcases List.mem_cons.1 hx with rfl | hx
      · exact h7
      · exact cmpL_lt_trans h7 (h6 x hx)
    · rcases List.mem_cons.1 hx with rfl | hx
      · omega
      · exact h5 x hx
theorem chkO_of : ∀ (l : Cx) (p : Option (List Vx)), AscL l → (∀ u, p = some u → ∀ s ∈ l, cmpL u s < 0) → (∀ s ∈ l, chkV s = 0) → chkO p l = 0
  | [], p, _, _, _ => rfl
  | s :: l, p, ha, hp, hc => by
    unfold chkO
    rw [if_neg (by have := hc s (by simp); omega), if_neg ?_]
    · unfold AscL at ha
      rw [List.pairwise_cons] at ha
      exact chkO_of l (some s) ha.2 (fun u hu x hx => by cases hu; exact ha.1 x hx) fun x hx => hc x (by simp [hx])
    · cases p with
      | none => simp
      | some u =>
        have := hp u rfl s (by simp)
        simp only [decide_eq_true_eq]; omega
theorem inside_lt {a b : List Vx} (ha : Asc a) (hb : Asc b) (h : insideV a b = true) (hne : a ≠ b) : a.length < b.length := by
  have hsub : ∀ x ∈ a, x ∈ b := fun x hx => by
    have := List.all_eq_true.1 h x hx
    simpa using this
  have e : sharedV b a true = a := asc_ext (asc_shared hb) ha fun x => by
    rw [mem_shared]
    constructor
    · intro ⟨_, h⟩; simpa using h
    · intro hx; exact ⟨hsub x hx, by simpa using hx⟩
  have hs : a.Sublist b := by rw [← e]; exact shared_sub
  rcases Nat.lt_or_ge a.length b.length with h1 | h1
  · exact h1
  · exact absurd (hs.eq_of_length_le h1) hne
theorem inside_le {a b : List Vx} (ha : Asc a) (hb : Asc b) (h : insideV a b = true) : a.length ≤ b.length := by
  by_cases e : a = b
  · rw [e]; exact Nat.le_refl _
  · exact Nat.le_of_lt (inside_lt ha hb h e)
theorem twice_any {l : Cx} (ha : AscL l) (hc : ∀ s ∈ l, chkV s = 0) : twiceC l = l.any fun s => coveredC l s := by
  have asc : ∀ s ∈ l, Asc s := fun s hs => (chkV_zero.1 (hc s hs)).2.2.2
  rw [Bool.eq_iff_iff]
  unfold twiceC
  simp only [List.any_eq_true, List.mem_range, Bool.and_eq_true, decide_eq_true_eq, coveredC_iff]
  constructor
  · rintro ⟨i, hi, k, hk, hne, h⟩
    rw [getD_at hi, getD_at hk] at h
    have hmi := List.getElem_mem hi
    have hmk := List.getElem_mem hk
    refine ⟨l[i], hmi, l[k], hmk, inside_lt (asc _ hmi) (asc _ hmk) h fun e => ?_, h⟩
    have hp := List.pairwise_iff_getElem.1 ha.nodup
    rcases Nat.lt_or_gt_of_ne hne with h1 | h1
    · exact hp i k hi hk h1 e
    · exact hp k i hk hi h1 e.symm
  · rintro ⟨s, hs, x, hx, hlt, h⟩
    obtain ⟨i, hi, rfl⟩ := List.getElem_of_mem hs
    obtain ⟨k, hk, rfl⟩ := List.getElem_of_mem hx
    exact ⟨i, hi, k, hk, fun e => by subst e; omega, by rw [getD_at hi, getD_at hk]; exact h⟩
def GoodX (l : Cx) : Prop := l.length ≤ 4096 ∧ AscL l ∧ (∀ s ∈ l, chkV s = 0) ∧ ∀ s ∈ l, coveredC l s = false
theorem goodX_iff {l : Cx} : chkC l = 0 ↔ GoodX l := by
  unfold GoodX
  constructor
  · intro h
    obtain ⟨h1, h2, h3, h4⟩ := chkC_good h
    obtain ⟨h5, _, h6⟩ := chkO_asc l none h2
    rw [twice_any h5 h6, List.any_eq_false] at h3
    exact ⟨h1, h5, h6, fun s hs => by simpa using h3 s hs⟩
  · rintro ⟨h1, h2, h3, h4⟩
    unfold chkC
    have h5 : chkO none l = 0 := chkO_of l none h2 (fun u hu => by cases hu) h3
    have h6 : twiceC l = false := by
      rw [twice_any h2 h3, List.any_eq_false]
      exact fun s hs => by simp [h4 s hs]
    rw [if_neg (by omega), if_neg (by omega), if_neg (by simp [h6])]
theorem good_max {l : Cx} (hc : ∀ s ∈ l, s.length ≠ 0 → chkV s = 0) (hl : (maxC l).length ≤ 4096) : GoodX (maxC l) := by
  refine ⟨hl, maxC_asc l, fun s hs => ?_, fun s hs => ?_⟩
  · obtain ⟨h1, h2⟩ := maxC_mem.1 hs
    unfold topC at h2
    simp only [Bool.and_eq_true, decide_eq_true_eq] at h2
    exact hc s h1 (by omega)
  · obtain ⟨h1, h2⟩ := maxC_mem.1 hs
    unfold topC at h2
    simp only [Bool.and_eq_true, decide_eq_true_eq, Bool.not_eq_true'] at h2
    rw [Bool.eq_false_iff]
    intro hcv
    obtain ⟨x, hx, hr⟩ := coveredC_iff.1 hcv
    have := coveredC_iff.2 ⟨x, (maxC_mem.1 hx).1, hr⟩
    rw [h2.2] at this
    cases this
theorem max_good {l : Cx} (h : GoodX l) : maxC l = l := by
  rw [← maxC_eq (zs := l) (fun s hs => by have := chkV_zero.1 (h.2.2.1 s hs); omega) h.2.1 fun u => Iff.rfl]
  rw [List.filter_eq_self]
  intro s hs; simp [h.2.2.2 s hs]
theorem allC_mem : ∀ {l : Cx} {k : Nat} {x : List Vx}, x ∈ allC l k ↔ ∃ f ∈ l, x ∈ subsV k f := by
  have go : ∀ (l out : Cx) (k : Nat) (x : List Vx), x ∈ l.foldl (fun out f => if f.length < k then out else (subsV k f).foldl putC out) out ↔ x ∈ out ∨ ∃ f ∈ l, x ∈ subsV k f := by
    intro l
    induction l with
    | nil => intro out k x; simp
    | cons f l ih =>
      intro out k x
      rw [List.foldl_cons, ih]
      have e : x ∈ (if f.length < k then out else (subsV k f).foldl putC out) ↔ x ∈ out ∨ x ∈ subsV k f := by
        split
        · rename_i h; rw [subsV_short k f h]; simp
        · rw [foldPut_mem]; exact or_comm
      rw [e]
      constructor
      · rintro ((h | h) | ⟨g, hg, h⟩)
        · exact .inl h
        · exact .inr ⟨f, by simp, h⟩
        · exact .inr ⟨g, by simp [hg], h⟩
      · rintro (h | ⟨g, hg, h⟩)
        · exact .inl (.inl h)
        · rcases List.mem_cons.1 hg with rfl | hg
          · exact .inl (.inr h)
          · exact .inr ⟨g, hg, h⟩
  intro l k x
  unfold allC
  rw [go]; simp
theorem allC_asc (l : Cx) (k : Nat) : AscL (allC l k) := by
  have go : ∀ (l out : Cx), AscL out → AscL (l.foldl (fun out f => if f.length < k then out else (subsV k f).foldl putC out) out) := by
    intro l
    induction l with
    | nil => intro out h; exact h
    | cons f l ih =>
      intro out h
      rw [List.foldl_cons]
      refine ih _ ?_
      split
      · exact h
      · exact foldPut_asc h
  exact go l [] (by simp [AscL])
def newC (out : Cx) (l : Cx) : Cx := l.foldl (fun out f => if f ∈ out then out else out ++ [f]) out
def facC (l : Cx) (k : Nat) : Cx := l.foldl (fun out f => if f.length < k then out else newC out (subsV k f)) []
theorem newC_snoc {out l : Cx} {j : Nat} (h : j < l.length) : newC out (l.take (j + 1)) = if l[j] ∈ newC out (l.take j) then newC out (l.take j) else newC out (l.take j) ++ [l[j]] := by
  unfold newC; rw [take_snoc' h, List.foldl_append]; rfl
theorem newC_mem : ∀ {l out : Cx} {x : List Vx}, x ∈ newC out l ↔ x ∈ out ∨ x ∈ l
  | [], out, x => by simp [newC]
  | f :: l, out, x => by
    show x ∈ newC (if f ∈ out then out else out ++ [f]) l ↔ _
    rw [newC_mem (l := l)]
    split
    · rename_i h
      rw [List.mem_cons]
      constructor
      · rintro (h1 | h1)
        · exact .inl h1
        · exact .inr (.inr h1)
      · rintro (h1 | h1 | h1)
        · exact .inl h1
        · rw [h1]; exact .inl h
        · exact .inr h1
    · rw [List.mem_append, List.mem_singleton, List.mem_cons, or_assoc]
theorem newC_nodup : ∀ {l out : Cx}, out.Nodup → (newC out l).Nodup
  | [], out, h => h
  | f :: l, out, h => by
    show (newC (if f ∈ out then out else out ++ [f]) l).Nodup
    refine newC_nodup (l := l) ?_
    split
    · exact h
    · rename_i hf
      rw [List.nodup_append]
      exact ⟨h, by simp, fun a ha b hb => by rw [List.mem_singleton.1 hb]; exact fun e => hf (e ▸ ha)⟩
theorem newC_len (l out : Cx) : out.length ≤ (newC out l).length ∧ (newC out l).length ≤ out.length + l.length := by
  induction l generalizing out with
  | nil => simp [newC]
  | cons f l ih =>
    have h := ih (if f ∈ out then out else out ++ [f])
    have e : newC out (f :: l) = newC (if f ∈ out then out else out ++ [f]) l := rfl
    rw [e]
    split at h <;> (simp only [List.length_append, List.length_cons, List.length_nil] at h ⊢; rename_i hf; first | rw [if_pos hf] | rw [if_neg hf]) <;> omega
theorem facC_snoc {l : Cx} {k i : Nat} (h : i < l.length) : facC (l.take (i + 1)) k = if l[i].length < k then facC (l.take i) k else newC (facC (l.take i) k) (subsV k l[i]) := by
  unfold facC; rw [take_snoc' h, List.foldl_append]; rfl
theorem facC_inv (l : Cx) (k : Nat) : ∀ n, n ≤ l.length → (facC (l.take n) k).Nodup ∧ ∀ x, x ∈ facC (l.take n) k ↔ x ∈ allC (l.take n) k
  | 0, _ => by simp [facC, allC]
  | n + 1, hn => by
    obtain ⟨h1, h2⟩ := facC_inv l k n (by omega)
    have h3 : ∀ x, x ∈ allC (l.take (n + 1)) k ↔ x ∈ allC (l.take n) k ∨ x ∈ subsV k l[n] := fun x => by
      rw [allC_mem, allC_mem, take_snoc' (by omega)]
      constructor
      · rintro ⟨f, hf, hx⟩
        rcases List.mem_append.1 hf with hf | hf
        · exact .inl ⟨f, hf, hx⟩
        · rw [List.mem_singleton.1 hf] at hx; exact .inr hx
      · rintro (⟨f, hf, hx⟩ | hx)
        · exact ⟨f, List.mem_append.2 (.inl hf), hx⟩
        · exact ⟨l[n], List.mem_append.2 (.inr (List.mem_singleton.2 rfl)), hx⟩
    rw [facC_snoc (by omega)]
    split
    · rename_i hs
      refine ⟨h1, fun x => ?_⟩
      rw [h3, h2, subsV_short k _ hs]; simp
    · refine ⟨newC_nodup h1, fun x => ?_⟩
      rw [h3, newC_mem, h2]
theorem facC_len (l : Cx) (k n : Nat) (hn : n ≤ l.length) : (facC (l.take n) k).length = (allC (l.take n) k).length := by
  obtain ⟨h1, h2⟩ := facC_inv l k n hn
  exact ((List.perm_ext_iff_of_nodup h1 (allC_asc _ k).nodup).2 h2).length_eq
theorem facC_mono {l : Cx} {k n : Nat} (hn : n ≤ l.length) : (facC (l.take n) k).length ≤ (allC l k).length := by
  obtain ⟨h1, h2⟩ := facC_inv l k n hn
  have hsub : ∀ x ∈ facC (l.take n) k, x ∈ allC l k := fun x hx => by
    obtain ⟨f, hf, hx⟩ := allC_mem.1 ((h2 x).1 hx)
    exact allC_mem.2 ⟨f, List.mem_of_mem_take hf, hx⟩
  have hp : (facC (l.take n) k).Perm ((allC l k).filter fun x => decide (x ∈ facC (l.take n) k)) :=
    (List.perm_ext_iff_of_nodup h1 ((allC_asc l k).nodup.filter _)).2 fun x => by
      rw [List.mem_filter, decide_eq_true_eq]
      exact ⟨fun hx => ⟨hsub x hx, hx⟩, fun hx => hx.2⟩
  rw [hp.length_eq]
  exact List.length_filter_le _ _
theorem sorted_all {l ys : Cx} {k : Nat} (hp : ys.Perm (facC l k)) (hs : SortL ys) : ys = allC l k := by
  have h := facC_inv l k l.length (Nat.le_refl _)
  rw [List.take_length] at h
  refine ascL_ext ?_ (allC_asc l k) fun x => by rw [hp.mem_iff]; exact h.2 x
  have hn : ys.Nodup := hp.nodup_iff.2 h.1
  refine List.Pairwise.imp₂ (fun a b h1 h2 => ?_) hs hn
  rcases cmpL_cases a b with h3 | h3 | h3
  · exact h3
  · exact absurd h3 h1
  · exact absurd h3 h2
end Go.Proofs.YtkedmlandjlogaaGreat
namespace Go.Proofs.YtkedmlandjlogaaGreat
open Go.RowKit
set_option linter.unusedSimpArgs false

set_option maxHeartbeats 2000000
set_option maxRecDepth 100000
section
variable {P : Program} {ops : Array Oper} {hp : List HObj} {fr : List Dat} {dst : Option Tmp} {ty : TypeId} {ps : String} {af : Array Edge} {g : Option (Nat × Bool)}
theorem SY.minI {x y : Operand} {m n : Int} {ats : Array TypeId} (hx : OpD fr x (dI m)) (hy : OpD fr y (dI n)) : SY P ops hp { dst := dst, op := .call { callee := .builtin .min, args := #[x, y], argTypes := ats }, type := ty, pos := ps, after := af, guard := g } fr (dI (if n < m then n else m)) :=
  SY.val fun {I w a} ho => ⟨.int .i64 (if n < m then n else m), by
    have h1 : a.eval x = .int .i64 m := hx.get (by simp [Op.operands, Call.operands]) ho
    have h2 : a.eval y = .int .i64 n := hy.get (by simp [Op.operands, Call.operands]) ho
    unfold execOp
    simp [resolve, invoke, builtin, h1, h2, Builtin.min_, Builtin.min2], rfl⟩
theorem SY.maxI {x y : Operand} {m n : Int} {ats : Array TypeId} (hx : OpD fr x (dI m)) (hy : OpD fr y (dI n)) : SY P ops hp { dst := dst, op := .call { callee := .builtin .max, args := #[x, y], argTypes := ats }, type := ty, pos := ps, after := af, guard := g } fr (dI (if m < n then n else m)) :=
  SY.val fun {I w a} ho => ⟨.int .i64 (if m < n then n else m), by
    have h1 : a.eval x = .int .i64 m := hx.get (by simp [Op.operands, Call.operands]) ho
    have h2 : a.eval y = .int .i64 n := hy.get (by simp [Op.operands, Call.operands]) ho
    unfold execOp
    simp [resolve, invoke, builtin, h1, h2, Builtin.max_, Builtin.max2], rfl⟩
end
def leastC (l : Cx) : Int := l.foldl (fun m s => if (s.length : Int) < m then (s.length : Int) else m) 8
def mostC (l : Cx) : Int := l.foldl (fun m s => if m < (s.length : Int) then (s.length : Int) else m) 0
theorem leastC_snoc {l : Cx} {k : Nat} (h : k < l.length) : leastC (l.take (k + 1)) = if (l[k].length : Int) < leastC (l.take k) then (l[k].length : Int) else leastC (l.take k) := by
  unfold leastC; rw [take_snoc' h, List.foldl_append]; rfl
theorem mostC_snoc {l : Cx} {k : Nat} (h : k < l.length) : mostC (l.take (k + 1)) = if mostC (l.take k) < (l[k].length : Int) then (l[k].length : Int) else mostC (l.take k) := by
  unfold mostC; rw [take_snoc' h, List.foldl_append]; rfl
def pureC (l : Cx) : Bool := decide (mostC l = 0) || decide (leastC l = mostC l)
theorem dimension_p (l : Cx) (hs : ∀ s ∈ l, s.length ≤ 1000) : Fn Tryz.prog 83 [dS Cpx l] (dT [dI (mostC l - 1), dB (pureC l)]) := by
  (refine Fn.intro2 Tryz.func83 rfl rfl ?_; simp only [Tryz.ntmps83, List.length_cons, List.length_nil, Nat.reduceAdd, Nat.reduceSub, List.replicate_succ, List.replicate_zero, List.cons_append, List.nil_append])
  ((repeat' (first | (apply WL.opG; (focus (apply SYG.yes; (exact want_none rfl); (first | (apply SY.move <;> (exact oD)) | (apply SY.assign <;> (exact oD)) | (apply SY.load; (exact tD); (exact OpD.t rfl))))); dsimp only [setD, z0, z1]) | refine WL.nil ?_ | refine WC.seqK fun Kx hK => ?_ | (refine hK _ _ ?_; clear hK) | refine WC.region ?_ | (apply WL.opG; (focus (first | (apply SYG.no; first | exact want_notT rfl rfl rfl (by with_reducible rfl) | exact want_notF rfl rfl rfl (by with_reducible rfl)) | (apply SYG.yes; (first | exact want_none rfl | exact want_yes rfl rfl rfl (by with_reducible rfl)); ((first | exact yLen | exact yFieldaddr | exact yBox | fail); all_goals infer_instance)))); dsimp only [setD, z0, z1]) | refine WC.block ?_)); all_goals (first | refine WC.id ?_ | refine WL.id ?_ | refine WDs.id ?_ | ((repeat clear hK); (repeat clear Kx))))
  (first | refine WC.know (t := 0) rfl le_K fun hl0 => ?_ | refine WC.know (t := 0) rfl le_A fun hl0 => ?_ | refine WC.know (t := 0) rfl le_C fun hl0 => ?_); simp only [maxLen] at hl0
  (refine WC.loopU (X := Nat × Int × Int) (fun x => [(11, dI (x.1 : Int)), (4, dI x.2.1), (5, dI x.2.2), (7, dA), (12, dA), (13, dA), (14, dA), (15, dA), (16, dA), (17, dA), (18, dA), (19, dA), (20, dA), (21, dA), (22, dA), (23, dA)]) (fun x => []) (fun x => l.length - x.1) (fun x => x.1 ≤ l.length ∧ x.2.1 = leastC (l.take x.1) ∧ x.2.2 = mostC (l.take x.1) ∧ 0 ≤ x.2.2 ∧ x.2.2 ≤ 1000) (0, 8, 0) ?start ?frame0 ?objs0 ?round)
  case start => exact ⟨Nat.zero_le _, rfl, rfl, by decide, by decide⟩
  case frame0 => ((try dsimp only [upds, z0, z1]); repeat (first | exact LeF.nil | refine LeF.cons (by first | with_reducible exact Dat.le_any _ | with_reducible exact Dat.le_refl _ | exact le_ii (by omega) | exact Dat.le_nil | exact Dat.le_nilK (by decide) | assumption | exact Dat.le_refl _ | exact le_eq (by simp)) ?_))
  case objs0 => rfl
  case round =>
    rintro ⟨k, a, b⟩ ⟨h1, h2, h3, h4, h5⟩
    simp only at h1 h2 h3 h4 h5
    dsimp only [upds, z0, z1]
    ((repeat' (first | (apply WL.opG; (focus (apply SYG.yes; (exact want_none rfl); (first | (apply SY.move <;> (exact oD)) | (apply SY.assign <;> (exact oD)) | (apply SY.load; (exact tD); (exact OpD.t rfl))))); dsimp only [setD, z0, z1]) | refine WL.nil ?_ | refine WC.seqK fun Kx hK => ?_ | (refine hK _ _ ?_; clear hK) | (refine Kont.skip ?_; clear hK) | refine WC.region ?_ | (apply WL.opG; (focus (first | (apply SYG.no; first | exact want_notT rfl rfl rfl (by with_reducible rfl) | exact want_notF rfl rfl rfl (by with_reducible rfl)) | (apply SYG.yes; (first | exact want_none rfl | exact want_yes rfl rfl rfl (by with_reducible rfl)); ((first | (apply SY.minI; exact OpD.t rfl; exact OpD.t rfl) | (apply SY.maxI; exact OpD.t rfl; exact OpD.t rfl) | exact yMove | exact yLss | exact yEql | exact yAdd | exact ySub | exact yLen | exact yIndexaddr | exact yPick | fail); all_goals infer_instance)))); dsimp only [setD, z0, z1]) | ((first | refine WL.caseP rfl rfl rfl (fun h => ?_) (fun h => ?_) | refine WL.caseN rfl rfl rfl (fun h => ?_) (fun h => ?_) | refine WL.caseB rfl rfl rfl (fun h => ?_) (fun h => ?_)) <;> (first | (exfalso; first | omega | contradiction) | (dsimp only [z0, z1]))) | (apply WC.condD; (exact oD); (all_goals intro h); (all_goals try (exfalso; first | omega | contradiction))) | refine WC.skip ?_ | refine WC.ret ?_ | refine WC.exit ?_ | refine WC.block ?_ | refine ThenD.n ?_)); all_goals (first | refine WC.id ?_ | refine WL.id ?_ | refine WDs.id ?_ | ((repeat clear hK); (repeat clear Kx))))
    · (refine ⟨(k + 1, if (l[k].length : Int) < a then (l[k].length : Int) else a, if b < (l[k].length : Int) then (l[k].length : Int) else b), ?_, by first | omega | (simp only; omega), rfl, ?_⟩; rotate_left; ((try dsimp only [upds, z0, z1]); repeat (first | exact LeF.nil | refine LeF.cons (by first | with_reducible exact Dat.le_any _ | with_reducible exact Dat.le_refl _ | exact le_ii (by omega) | exact Dat.le_nil | exact Dat.le_nilK (by decide) | assumption | exact Dat.le_refl _ | exact le_eq (by simp)) ?_)); (try dsimp only))
      have h9 := hs _ (List.getElem_mem (show k < l.length by omega))
      refine ⟨by omega, ?_, ?_, ?_, ?_⟩
      · rw [leastC_snoc (by omega), ← h2]
      · rw [mostC_snoc (by omega), ← h3]
      · split <;> omega
      · split <;> omega
    all_goals rw [List.take_of_length_le (by omega)] at h2 h3
    · have e : pureC l = true := by unfold pureC; rw [← h3, decide_eq_true h]; rfl
      rw [e, ← h3]
      (refine ⟨trivial, ⟨_, rfl, ?_⟩, _, rfl, ?_⟩ <;> (first | exact fD | refine FinD.i ?_ | refine FinD.b ?_ | refine FinD.rowKE (.head _) ?_ | refine FinD.rowE (.head _) ?_ | refine FinD.nilKE (by decide) ?_ | refine FinD.nilE ?_ | refine FinD.s ?_))
    · have e : pureC l = decide (a = b) := by unfold pureC; rw [← h3, ← h2, decide_eq_false h]; rfl
      rw [e, ← h3]
      (refine ⟨trivial, ⟨_, rfl, ?_⟩, _, rfl, ?_⟩ <;> (first | exact fD | refine FinD.i ?_ | refine FinD.b ?_ | refine FinD.rowKE (.head _) ?_ | refine FinD.rowE (.head _) ?_ | refine FinD.nilKE (by decide) ?_ | refine FinD.nilE ?_ | refine FinD.s ?_))
end Go.Proofs.YtkedmlandjlogaaGreat
namespace Go.Proofs.YtkedmlandjlogaaGreat
open Go.RowKit
set_option linter.unusedSimpArgs false

set_option maxHeartbeats 2000000
set_option maxRecDepth 100000
abbrev VxOf (S : Vx → Prop) := {v : Vx // S v}
abbrev dPredW (S : Vx → Prop) (p : Vx → Bool) : Dat := dFun Tryz.prog (fun v : VxOf S => [dS RV v.1]) (fun v => dB (p v.1))
set_option maxHeartbeats 1000000 in
theorem filterV_p (S : Vx → Prop) (s : List Vx) (p : Vx → Bool) (hS : ∀ v ∈ s, S v) (hl : s.length ≤ 1000) : Fn Tryz.prog 149 [dS Verts s, dPredW S p] (dS Verts (s.filter p)) := by
  (refine Fn.intro1 Tryz.func149 rfl rfl ?_; simp only [Tryz.ntmps149, List.length_cons, List.length_nil, Nat.reduceAdd, Nat.reduceSub, List.replicate_succ, List.replicate_zero, List.cons_append, List.nil_append])
  ((repeat' (first | (apply WL.opG; (focus (apply SYG.yes; (exact want_none rfl); (first | (apply SY.move <;> (exact oD)) | (apply SY.assign <;> (exact oD)) | (apply SY.load; (exact tD); (exact OpD.t rfl))))); dsimp only [setD, z0, z1]) | refine WL.nil ?_ | refine WC.seqK fun Kx hK => ?_ | (refine hK _ _ ?_; clear hK) | refine WC.region ?_ | (apply WL.opG; (focus (apply SYG.yes; (exact want_none rfl); ((first | exact yLen | fail); all_goals infer_instance))); dsimp only [setD, z0, z1]) | refine WC.block ?_)); all_goals (first | refine WC.id ?_ | refine WL.id ?_ | refine WDs.id ?_ | ((repeat clear hK); (repeat clear Kx))))
  refine WC.nilRowK 37 2 (by decide) RV ?_
  (refine WC.loopU (X := Nat × Value) (fun x => [(5, dX x.2), (10, dI (x.1 : Int)), (7, dA), (11, dA), (12, dA), (13, dA), (14, dA), (15, dA), (16, dA), (17, dA), (18, dA), (19, dA), (20, dA), (21, dA)]) (fun x => [hRowK x.2 37 2 RV ((s.take x.1).filter p)]) (fun x => s.length - x.1) (fun x => x.1 ≤ s.length) (0, .slice none 0 0) ?start ?frame0 ?objs0 ?round)
  case start => simp
  case frame0 => ((try dsimp only [upds, z0, z1]); repeat (first | exact LeF.nil | refine LeF.cons (by first | with_reducible exact Dat.le_any _ | with_reducible exact Dat.le_refl _ | exact le_ii (by omega) | exact Dat.le_nil | exact Dat.le_nilK (by decide) | assumption | exact Dat.le_refl _ | exact le_eq (by simp)) ?_))
  case objs0 => rfl
  case round =>
    rintro ⟨k, u⟩ h1
    dsimp only [upds, z0, z1]
    simp only at h1
    have h2 : ((s.take k).filter p).length ≤ 1000 := Nat.le_trans (List.length_filter_le _ _) (Nat.le_trans (List.length_take_le _ _) (by omega))
    ((repeat' (first | (apply WL.opG; (focus (apply SYG.yes; (exact want_none rfl); (first | (apply SY.move <;> (exact oD)) | (apply SY.assign <;> (exact oD)) | (apply SY.load; (exact tD); (exact OpD.t rfl))))); dsimp only [setD, z0, z1]) | refine WL.nil ?_ | refine WC.seqK fun Kx hK => ?_ | (refine hK _ _ ?_; clear hK) | (refine Kont.skip ?_; clear hK) | refine WC.region ?_ | ((first | apply WL.pushK | apply WL.push1); (exact eD); exact OpD.t rfl; (exact oD); (intro _; first | exact shape_V | exact shape_I | exact shape_B | exact shape_A | exact shape_K); (exact (by simp)); (exact (by simp)); (first | exact ⟨by decide, by decide⟩ | skip); decide; (exact lD); (intro _; dsimp only [setD, z0, z1]); all_goals (try infer_instance)) | (apply WL.alloc; (first | exact tzV | exact tzC); (first | exact shape_X rfl | exact shape_XV | exact shape_C0 rfl); (intro _; dsimp only [setD, z0, z1])) | (apply WL.storeF; (exact tD); rfl; (exact oD); (exact hD); dsimp only [setD, z0, z1]) | (apply WL.opG; (focus (apply SYG.yes; (exact want_none rfl); ((first | (apply SY.dynF (x := (⟨s[k], hS _ (List.getElem_mem _)⟩ : VxOf S)); (exact OpD.t rfl); (exact aD)) | exact yLss | exact yAdd | exact yIndexaddr | fail); all_goals infer_instance))); dsimp only [setD, z0, z1]) | (apply WC.condD; (exact oD); (all_goals intro h); (all_goals try (exfalso; first | omega | contradiction))) | (apply WC.cond; (exact oD); (all_goals intro h); (all_goals try (exfalso; first | omega | contradiction))) | refine WC.skip ?_ | refine WC.ret ?_ | refine WC.exit ?_ | refine WC.block ?_ | refine ThenD.n ?_)); all_goals (first | refine WC.id ?_ | refine WL.id ?_ | refine WDs.id ?_ | ((repeat clear hK); (repeat clear Kx))))
    · (refine ⟨(k + 1, _) , ?_, by first | omega | (simp only; omega), by ((try simp only);  (rw [filter_snoc (by omega), if_pos h])), ?_⟩; rotate_left; ((try dsimp only [upds, z0, z1]); repeat (first | exact LeF.nil | refine LeF.cons (by first | with_reducible exact Dat.le_any _ | with_reducible exact Dat.le_refl _ | exact le_ii (by omega) | exact Dat.le_nil | exact Dat.le_nilK (by decide) | assumption | exact Dat.le_refl _ | exact le_eq (by simp)) ?_)); (try dsimp only))
      omega
    · (refine ⟨(k + 1, _) , ?_, by first | omega | (simp only; omega), by ((try simp only);  (rw [filter_snoc (by omega), if_neg (by simp [h]), List.append_nil])), ?_⟩; rotate_left; ((try dsimp only [upds, z0, z1]); repeat (first | exact LeF.nil | refine LeF.cons (by first | with_reducible exact Dat.le_any _ | with_reducible exact Dat.le_refl _ | exact le_ii (by omega) | exact Dat.le_nil | exact Dat.le_nilK (by decide) | assumption | exact Dat.le_refl _ | exact le_eq (by simp)) ?_)); (try dsimp only))
      omega
    · (refine ⟨trivial, _, rfl, ?_⟩; (first | exact fD | refine FinD.i ?_ | refine FinD.b ?_ | refine FinD.rowKE (.head _) ?_ | refine FinD.rowE (.head _) ?_ | refine FinD.nilKE (by decide) ?_ | refine FinD.nilE ?_ | refine FinD.s ?_))
      rw [List.take_of_length_le (by omega)]
def eachC (p : Vx → Bool) (l : Cx) : Cx := (l.map fun s => s.filter p).filter fun s => decide (0 < s.length)
theorem eachC_snoc {p : Vx → Bool} {l : Cx} {k : Nat} (h : k < l.length) : eachC p (l.take (k + 1)) = eachC p (l.take k) ++ (if 0 < (l[k].filter p).length then [l[k].filter p] else []) := by
  unfold eachC
  rw [take_snoc' h, List.map_append, List.filter_append]
  by_cases hp : 0 < (l[k].filter p).length
  · rw [if_pos hp]; simp only [List.map_cons, List.map_nil]; rw [List.filter_cons_of_pos (by simpa using hp)]; rfl
  · rw [if_neg hp]; simp only [List.map_cons, List.map_nil]; rw [List.filter_cons_of_neg (by simpa using hp)]; rfl
theorem each_p (S : Vx → Prop) (l : Cx) (p : Vx → Bool) (hS : ∀ s ∈ l, ∀ v ∈ s, S v) (hs : ∀ s ∈ l, s.length ≤ 1000) (hl : l.length ≤ 1000000) : Fn Tryz.prog 87 [dS Simps l, dPredW S p] (dS Simps (eachC p l)) := by
  (refine Fn.intro1 Tryz.func87 rfl rfl ?_; simp only [Tryz.ntmps87, List.length_cons, List.length_nil, Nat.reduceAdd, Nat.reduceSub, List.replicate_succ, List.replicate_zero, List.cons_append, List.nil_append])
  ((repeat' (first | (apply WL.opG; (focus (apply SYG.yes; (exact want_none rfl); (first | (apply SY.move <;> (exact oD)) | (apply SY.assign <;> (exact oD)) | (apply SY.load; (exact tD); (exact OpD.t rfl))))); dsimp only [setD, z0, z1]) | refine WL.nil ?_ | refine WC.seqK fun Kx hK => ?_ | (refine hK _ _ ?_; clear hK) | refine WC.region ?_ | (apply WL.opG; (focus (apply SYG.yes; (exact want_none rfl); ((first | exact yLen | fail); all_goals infer_instance))); dsimp only [setD, z0, z1]) | refine WC.block ?_)); all_goals (first | refine WC.id ?_ | refine WL.id ?_ | refine WDs.id ?_ | ((repeat clear hK); (repeat clear Kx))))
  refine WC.nilRow 32 Verts ?_
  (refine WC.loopU (X := Nat × Value × Cx) (fun x => [(5, dX x.2.1), (11, dI (x.1 : Int)), (7, dA), (8, dA), (12, dA), (13, dA), (14, dA), (15, dA), (16, dA), (17, dA), (18, dA), (19, dA), (20, dA), (21, dA), (22, dA), (23, dA), (24, dA), (25, dA)]) (fun x => [hRow x.2.1 32 Verts x.2.2]) (fun x => l.length - x.1) (fun x => x.1 ≤ l.length ∧ x.2.2 = eachC p (l.take x.1)) (0, .slice none 0 0, []) ?start ?frame0 ?objs0 ?round)
  case start => exact ⟨Nat.zero_le _, by simp [eachC]⟩
  case frame0 => ((try dsimp only [upds, z0, z1]); repeat (first | exact LeF.nil | refine LeF.cons (by first | with_reducible exact Dat.le_any _ | with_reducible exact Dat.le_refl _ | exact le_ii (by omega) | exact Dat.le_nil | exact Dat.le_nilK (by decide) | assumption | exact Dat.le_refl _ | exact le_eq (by simp)) ?_))
  case objs0 => rfl
  case round =>
    rintro ⟨k, u, o⟩ ⟨h1, h2⟩
    dsimp only [upds, z0, z1]
    simp only at h1 h2
    have hol : o.length ≤ 1000000 := by
      have h5 := List.length_filter_le (fun s : List Vx => decide (0 < s.length)) ((l.take k).map fun s => s.filter p)
      rw [List.length_map, List.length_take] at h5
      rw [h2]; unfold eachC; omega
    ((repeat' (first | (apply WL.opG; (focus (apply SYG.yes; (exact want_none rfl); (first | (apply SY.move <;> (exact oD)) | (apply SY.assign <;> (exact oD)) | (apply SY.load; (exact tD); (exact OpD.t rfl))))); dsimp only [setD, z0, z1]) | refine WL.nil ?_ | refine WC.seqK fun Kx hK => ?_ | (refine hK _ _ ?_; clear hK) | (refine Kont.skip ?_; clear hK) | refine WC.region ?_ | ((first | apply WL.pushK | apply WL.push1); (exact eD); exact OpD.t rfl; (exact oD); (intro _; first | exact shape_V | exact shape_I | exact shape_B | exact shape_A | exact shape_K); (exact (by simp)); (exact (by simp)); (first | exact ⟨by decide, by decide⟩ | skip); decide; (exact lD); (intro _; dsimp only [setD, z0, z1]); all_goals (try infer_instance)) | (apply WL.opG; (focus (apply SYG.yes; (exact want_none rfl); ((first | (apply SY.call (filterV_p S _ p (hS _ (List.getElem_mem _)) (hs _ (List.getElem_mem _))) Tryz.call149; (exact aD)) | exact yLss | exact yGtr | exact yAdd | exact yLen | exact yIndexaddr | fail); all_goals infer_instance))); dsimp only [setD, z0, z1]) | (apply WC.condD; (exact oD); (all_goals intro h); (all_goals try (exfalso; first | omega | contradiction))) | refine WC.skip ?_ | refine WC.ret ?_ | refine WC.exit ?_ | refine WC.block ?_ | refine ThenD.n ?_)); all_goals (first | refine WC.id ?_ | refine WL.id ?_ | refine WDs.id ?_ | ((repeat clear hK); (repeat clear Kx))))
    · (refine ⟨(k + 1, _, o ++ [l[k].filter p]), ?_, by first | omega | (simp only; omega), rfl, ?_⟩; rotate_left; ((try dsimp only [upds, z0, z1]); repeat (first | exact LeF.nil | refine LeF.cons (by first | with_reducible exact Dat.le_any _ | with_reducible exact Dat.le_refl _ | exact le_ii (by omega) | exact Dat.le_nil | exact Dat.le_nilK (by decide) | assumption | exact Dat.le_refl _ | exact le_eq (by simp)) ?_)); (try dsimp only))
      refine ⟨by omega, ?_⟩
      show o ++ _ = _
      rw [eachC_snoc (by omega), if_pos (by omega), ← h2]
    · (refine ⟨(k + 1, u, o), ?_, by first | omega | (simp only; omega), rfl, ?_⟩; rotate_left; ((try dsimp only [upds, z0, z1]); repeat (first | exact LeF.nil | refine LeF.cons (by first | with_reducible exact Dat.le_any _ | with_reducible exact Dat.le_refl _ | exact le_ii (by omega) | exact Dat.le_nil | exact Dat.le_nilK (by decide) | assumption | exact Dat.le_refl _ | exact le_eq (by simp)) ?_)); (try dsimp only))
      refine ⟨by omega, ?_⟩
      show o = _
      rw [eachC_snoc (by omega), if_neg (by omega), List.append_nil, ← h2]
    · rw [List.take_of_length_le (by omega)] at h2
      subst h2
      (refine ⟨trivial, _, rfl, ?_⟩; (first | exact fD | refine FinD.i ?_ | refine FinD.b ?_ | refine FinD.rowKE (.head _) ?_ | refine FinD.rowE (.head _) ?_ | refine FinD.nilKE (by decide) ?_ | refine FinD.nilE ?_ | refine FinD.s ?_))
end Go.Proofs.YtkedmlandjlogaaGreat
namespace Go.Proofs.YtkedmlandjlogaaGreat
open Go.RowKit
set_option linter.unusedSimpArgs false

set_option maxHeartbeats 2000000
set_option maxRecDepth 100000
def stepA (k : Nat) (out : Cx) (f : List Vx) : Cx := if f.length < k then out else (subsV k f).foldl putC out
theorem allC_eq (c : Cx) (k : Nat) : allC c k = c.foldl (stepA k) [] := rfl
theorem allC_snoc {l : Cx} {k i : Nat} (h : i < l.length) : allC (l.take (i + 1)) k = stepA k (allC (l.take i) k) l[i] := by
  rw [allC_eq, allC_eq, take_snoc' h, List.foldl_append]; rfl
theorem stepA_len {k : Nat} {out : Cx} {f : List Vx} (h : f.length ≤ 8) : (stepA k out f).length ≤ out.length + 256 := by
  unfold stepA
  split
  · omega
  · have h1 := foldPut_len (subsV k f) out
    have h2 := Nat.le_trans (subsV_len k f) (Nat.pow_le_pow_right (by decide) h : 2 ^ f.length ≤ 2 ^ 8)
    omega
theorem allC_len : ∀ (l : Cx) (k i : Nat), (∀ f ∈ l, f.length ≤ 8) → i ≤ l.length → (allC (l.take i) k).length ≤ 256 * i
  | l, k, 0, _, _ => by simp [allC]
  | l, k, i + 1, h, hi => by
    rw [allC_snoc (by omega)]
    have h1 := stepA_len (k := k) (out := allC (l.take i) k) (h _ (List.getElem_mem (show i < l.length by omega)))
    have h2 := allC_len l k i h (by omega)
    omega
def simplC (l : Cx) (k : Int) : Cx × Int := if chkC l ≠ 0 then ([], chkC l) else if k < 1 ∨ 8 < k then ([], 2) else if 4096 < (allC l k.toNat).length then ([], 17) else (allC l k.toNat, 0)
theorem tmod2 (k : Nat) : ((k : Int) + 1).tmod 2 = (((k + 1) % 2 : Nat) : Int) := by rw [Int.tmod_eq_emod_of_nonneg (by omega)]; omega
def eulS (l : Cx) : Nat → Int
  | 0 => 0
  | k + 1 => if (k + 1) % 2 = 1 then eulS l k + (allC l (k + 1)).length else eulS l k - (allC l (k + 1)).length
def eulC (l : Cx) : Int × Int := if chkC l ≠ 0 then (0, chkC l) else if (List.range 8).any (fun k => decide (4096 < (allC l (k + 1)).length)) = true then (0, 17) else (eulS l 8, 0)
theorem eulS_le (l : Cx) (h : ∀ k, (allC l k).length ≤ 2000000) : ∀ k, eulS l k ≤ 2000000 * k ∧ -(2000000 * (k : Int)) ≤ eulS l k
  | 0 => by simp [eulS]
  | k + 1 => by
    have h1 := eulS_le l h k
    have h2 := h (k + 1)
    unfold eulS
    split <;> omega
end Go.Proofs.YtkedmlandjlogaaGreat
namespace Go.Proofs.YtkedmlandjlogaaGreat
open Go.RowKit
set_option linter.unusedSimpArgs false

set_option maxHeartbeats 2000000
set_option maxRecDepth 100000
def starC (l : Cx) (s : List Vx) : Cx × Int := if placeC l s ≠ 0 then ([], placeC l s) else (aroundC l s, 0)
def linkC (l : Cx) (s : List Vx) : Cx × Int := if placeC l s ≠ 0 then ([], placeC l s) else (maxC ((aroundC l s).map fun f => sharedV f s false), 0)
end Go.Proofs.YtkedmlandjlogaaGreat
namespace Go.Proofs.YtkedmlandjlogaaGreat
open Go.RowKit
set_option linter.unusedSimpArgs false

set_option maxHeartbeats 2000000
set_option maxRecDepth 100000
theorem dimC_le {l : Cx} (h : ∀ s ∈ l, s.length ≤ 8) : -1 ≤ dimC l ∧ dimC l ≤ 7 := by
  have go : ∀ (l : Cx) (m : Int), -1 ≤ m → m ≤ 7 → (∀ s ∈ l, s.length ≤ 8) → -1 ≤ l.foldl (fun m s => if m < (s.length : Int) - 1 then (s.length : Int) - 1 else m) m ∧ l.foldl (fun m s => if m < (s.length : Int) - 1 then (s.length : Int) - 1 else m) m ≤ 7 := by
    intro l
    induction l with
    | nil => intro m h1 h2 _; exact ⟨h1, h2⟩
    | cons s l ih =>
      intro m h1 h2 h
      have := h s (by simp)
      refine ih _ ?_ ?_ fun t ht => h t (by simp [ht])
      · dsimp only; split <;> omega
      · dsimp only; split <;> omega
  exact go l (-1) (by decide) (by decide) h
def oneC (l : Cx) (f : List Vx) : Bool := decide ((aroundC l f).length = 1)
def okC (l : Cx) (f : List Vx) : Bool := decide ((aroundC l f).length = 1) || decide ((aroundC l f).length = 2)
end Go.Proofs.YtkedmlandjlogaaGreat
