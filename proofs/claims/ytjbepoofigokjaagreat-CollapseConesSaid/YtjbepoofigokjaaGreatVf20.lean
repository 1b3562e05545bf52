/-
  Part 20 of the texts that the claims of this seat lean on: walks of the program's functions by contracts over symbolic frames, and plain laws of what they compute. No condition.
-/
import Derived.Test.YtjbepoofigokjaaGreatVf15
import Derived.Test.YtjbepoofigokjaaGreatVf17
import Derived.Test.YtjbepoofigokjaaGreatVf19
set_option linter.unusedVariables false
set_option linter.unusedSimpArgs false
set_option linter.unusedSectionVars false
namespace Go.Proofs.YtjbepoofigokjaaGreat
open Go.RowKit
set_option linter.unusedSimpArgs false

set_option maxHeartbeats 2000000
set_option maxRecDepth 100000
section
variable {P : Program} {ops : Array Oper} {hp : List HObj} {fr : List Dat} {dst : Option Tmp} {ty : TypeId} {ps : String} {af : Array Edge} {g : Option (Nat × Bool)}
theorem SY.minI {x y : Operand} {m n : Int} {ats : Array TypeId} (hx : OpD fr x (dI m)) (hy : OpD fr y (dI n)) : SY P ops hp { dst := dst, op := .call { callee := .builtin .min, args := #[x, y], argTypes := ats }, type := ty, pos := ps, after := af, guard := g } fr (dI (if n < m then n else m)) :=
  SY.val fun {I w a} ho => ⟨.int .i64 (if n < m then n else m), by
    have h1 : a.eval x = .int .i64 m := hx.get (by simp [Op.operands, Call.operands]) ho
    have h2 : a.eval y = .int .i64 n := hy.get (by simp [Op.operands, Call.operands]) ho
    unfold execOp
    simp [resolve, invoke, builtin, h1, h2, Builtin.min_, Builtin.min2], rfl⟩
theorem SY.maxI {x y : Operand} {m n : Int} {ats : Array TypeId} (hx : OpD fr x (dI m)) (hy : OpD fr y (dI n)) : SY P ops hp { dst := dst, op := .call { callee := .builtin .max, args := #[x, y], argTypes := ats }, type := ty, pos := ps, after := af, guard := g } fr (dI (if m < n then n else m)) :=
  SY.val fun {I w a} ho => ⟨.int .i64 (if m < n then n else m), by
    have h1 : a.eval x = .int .i64 m := hx.get (by simp [Op.operands, Call.operands]) ho
    have h2 : a.eval y = .int .i64 n := hy.get (by simp [Op.operands, Call.operands]) ho
    unfold execOp
    simp [resolve, invoke, builtin, h1, h2, Builtin.max_, Builtin.max2], rfl⟩
end
def leastC (l : Cx) : Int := l.foldl (fun m s => if (s.length : Int) < m then (s.length : Int) else m) 8
def mostC (l : Cx) : Int := l.foldl (fun m s => if m < (s.length : Int) then (s.length : Int) else m) 0
theorem leastC_snoc {l : Cx} {k : Nat} (h : k < l.length) : leastC (l.take (k + 1)) = if (l[k].length : Int) < leastC (l.take k) then (l[k].length : Int) else leastC (l.take k) := by
  unfold leastC; rw [take_snoc' h, List.foldl_append]; rfl
theorem mostC_snoc {l : Cx} {k : Nat} (h : k < l.length) : mostC (l.take (k + 1)) = if mostC (l.take k) < (l[k].length : Int) then (l[k].length : Int) else mostC (l.take k) := by
  unfold mostC; rw [take_snoc' h, List.foldl_append]; rfl
def pureC (l : Cx) : Bool := decide (mostC l = 0) || decide (leastC l = mostC l)
theorem dimension_p (l : Cx) (hs : ∀ s ∈ l, s.length ≤ 1000) : Fn Tryz.prog 75 [dS Cpx l] (dT [dI (mostC l - 1), dB (pureC l)]) := by
  (refine Fn.intro2 Tryz.func75 rfl rfl ?_; simp only [Tryz.ntmps75, List.length_cons, List.length_nil, Nat.reduceAdd, Nat.reduceSub, List.replicate_succ, List.replicate_zero, List.cons_append, List.nil_append])
  (repeat' (first | (apply WL.opN; exact yF; dsimp only [setD, z0, z1]) | refine WL.nil ?_ | refine WC.seqK fun Kx hK => ?_ | (refine hK _ _ ?_; clear hK) | refine WC.region ?_ | (apply WL.opG; (focus (first | exact wN | (apply SYG.yes; (exact wY); ((first | exact yLen | exact yFieldaddr | exact yBox | fail); all_goals infer_instance)))); dsimp only [setD, z0, z1]) | refine WC.block ?_))
  (first | refine WC.know (t := 0) rfl le_K fun hl0 => ?_ | refine WC.know (t := 0) rfl le_A fun hl0 => ?_ | refine WC.know (t := 0) rfl le_C fun hl0 => ?_); simp only [maxLen] at hl0
  (refine WC.loopU (X := Nat × Int × Int) (fun x => [(11, dI (x.1 : Int)), (4, dI x.2.1), (5, dI x.2.2), (7, dA), (12, dA), (13, dA), (14, dA), (15, dA), (16, dA), (17, dA), (18, dA), (19, dA), (20, dA), (21, dA), (22, dA), (23, dA)]) (fun x => []) (fun x => l.length - x.1) (fun x => x.1 ≤ l.length ∧ x.2.1 = leastC (l.take x.1) ∧ x.2.2 = mostC (l.take x.1) ∧ 0 ≤ x.2.2 ∧ x.2.2 ≤ 1000) (0, 8, 0) ?start ?frame0 ?objs0 ?round)
  case start => exact ⟨Nat.zero_le _, rfl, rfl, by decide, by decide⟩
  case frame0 => ((try dsimp only [upds, z0, z1]); repeat (first | exact LeF.nil | refine LeF.co (k := ?_)))
  case objs0 => rfl
  case round =>
    rintro ⟨k, a, b⟩ ⟨h1, h2, h3, h4, h5⟩
    simp only at h1 h2 h3 h4 h5
    dsimp only [upds, z0, z1]
    ((repeat' (first | (apply WL.opN; exact yF; dsimp only [setD, z0, z1]) | refine WL.nil ?_ | refine WC.seqK fun Kx hK => ?_ | (refine hK _ _ ?_; clear hK) | (refine Kont.skip ?_; clear hK) | refine WC.region ?_ | (apply WL.opG; (focus (first | exact wN | (apply SYG.yes; (exact wY); ((first | (apply SY.minI; exact OpD.t rfl; exact OpD.t rfl) | (apply SY.maxI; exact OpD.t rfl; exact OpD.t rfl) | exact yMove | exact yLss | exact yEql | exact yAdd | exact ySub | exact yLen | exact yIndexaddr | exact yPick | fail); all_goals infer_instance)))); dsimp only [setD, z0, z1]) | ((first | refine WL.caseP rfl rfl rfl (fun h => ?_) (fun h => ?_) | refine WL.caseN rfl rfl rfl (fun h => ?_) (fun h => ?_) | refine WL.caseB rfl rfl rfl (fun h => ?_) (fun h => ?_)) <;> (first | (exfalso; first | omega | contradiction) | (dsimp only [z0, z1]))) | (apply WC.condD; (exact oD); all_goals (intro h; try exact xD)) | refine WC.skip ?_ | refine WC.ret ?_ | refine WC.exit ?_ | refine WC.block ?_ | refine ThenD.n ?_)); all_goals (first | ((repeat clear hK); (repeat clear Kx))))
    · (refine ⟨(k + 1, if (l[k].length : Int) < a then (l[k].length : Int) else a, if b < (l[k].length : Int) then (l[k].length : Int) else b), ?_, by first | omega | (simp only; omega), rfl, ?_⟩; rotate_left; ((try dsimp only [upds, z0, z1]); repeat (first | exact LeF.nil | refine LeF.co (k := ?_))); (try dsimp only))
      have h9 := hs _ (List.getElem_mem (show k < l.length by omega))
      refine ⟨by omega, ?_, ?_, ?_, ?_⟩
      · rw [leastC_snoc (by omega), ← h2]
      · rw [mostC_snoc (by omega), ← h3]
      · split <;> omega
      · split <;> omega
    all_goals rw [List.take_of_length_le (by omega)] at h2 h3
    · have e : pureC l = true := by unfold pureC; rw [← h3, decide_eq_true h]; rfl
      rw [e, ← h3]
      (refine ⟨trivial, ⟨_, rfl, ?_⟩, _, rfl, ?_⟩ <;> exact fD)
    · have e : pureC l = decide (a = b) := by unfold pureC; rw [← h3, ← h2, decide_eq_false h]; rfl
      rw [e, ← h3]
      (refine ⟨trivial, ⟨_, rfl, ?_⟩, _, rfl, ?_⟩ <;> exact fD)
end Go.Proofs.YtjbepoofigokjaaGreat
namespace Go.Proofs.YtjbepoofigokjaaGreat
open Go.RowKit
set_option linter.unusedSimpArgs false

set_option maxHeartbeats 2000000
set_option maxRecDepth 100000
theorem dimC_le {l : Cx} (h : ∀ s ∈ l, s.length ≤ 8) : -1 ≤ dimC l ∧ dimC l ≤ 7 := by
  have go : ∀ (l : Cx) (m : Int), -1 ≤ m → m ≤ 7 → (∀ s ∈ l, s.length ≤ 8) → -1 ≤ l.foldl (fun m s => if m < (s.length : Int) - 1 then (s.length : Int) - 1 else m) m ∧ l.foldl (fun m s => if m < (s.length : Int) - 1 then (s.length : Int) - 1 else m) m ≤ 7 := by
    intro l
    induction l with
    | nil => intro m h1 h2 _; exact ⟨h1, h2⟩
    | cons s l ih =>
      intro m h1 h2 h
      have := h s (by simp)
      refine ih _ ?_ ?_ fun t ht => h t (by simp [ht])
      · dsimp only; split <;> omega
      · dsimp only; split <;> omega
  exact go l (-1) (by decide) (by decide) h
end Go.Proofs.YtjbepoofigokjaaGreat
namespace Go.Proofs.YtjbepoofigokjaaGreat
theorem GoodX.asc {l : Cx} (h : GoodX l) : ∀ s ∈ l, Asc s := fun s hs => (chkV_zero.1 (h.2.2.1 s hs)).2.2.2
theorem most_dim (l : Cx) : mostC l - 1 = dimC l := by
  have go : ∀ (l : Cx) (m : Int), l.foldl (fun m s => if m < (s.length : Int) then (s.length : Int) else m) m - 1 = l.foldl (fun m s => if m < (s.length : Int) - 1 then (s.length : Int) - 1 else m) (m - 1) := by
    intro l
    induction l with
    | nil => intro m; rfl
    | cons s l ih =>
      intro m
      rw [List.foldl_cons, List.foldl_cons, ih]
      congr 1
      split <;> split <;> omega
  exact go l 0
theorem most_max (l : Cx) : (∀ s ∈ l, (s.length : Int) ≤ mostC l) ∧ (mostC l = 0 ∨ ∃ s ∈ l, mostC l = s.length) := by
  have go : ∀ (l : Cx) (m : Int), m ≤ l.foldl (fun m s => if m < (s.length : Int) then (s.length : Int) else m) m ∧ (∀ s ∈ l, (s.length : Int) ≤ l.foldl (fun m s => if m < (s.length : Int) then (s.length : Int) else m) m) ∧
      (l.foldl (fun m s => if m < (s.length : Int) then (s.length : Int) else m) m = m ∨ ∃ s ∈ l, l.foldl (fun m s => if m < (s.length : Int) then (s.length : Int) else m) m = s.length) := by
    intro l
    induction l with
    | nil => intro m; simp
    | cons s l ih =>
      intro m
      rw [List.foldl_cons]
      obtain ⟨h1, h2, h3⟩ := ih (if m < (s.length : Int) then (s.length : Int) else m)
      refine ⟨by split at h1 <;> split <;> omega, fun x hx => ?_, ?_⟩
      · rcases List.mem_cons.1 hx with rfl | hx
        · split at h1 <;> split <;> omega
        · exact h2 x hx
      · rcases h3 with h3 | ⟨x, hx, h3⟩
        · rw [h3]
          split
          · exact .inr ⟨s, by simp, rfl⟩
          · exact .inl rfl
        · exact .inr ⟨x, by simp [hx], h3⟩
  exact ⟨(go l 0).2.1, (go l 0).2.2⟩
theorem least_min (l : Cx) : (∀ s ∈ l, leastC l ≤ (s.length : Int)) ∧ (leastC l = 8 ∨ ∃ s ∈ l, leastC l = s.length) := by
  have go : ∀ (l : Cx) (m : Int), l.foldl (fun m s => if (s.length : Int) < m then (s.length : Int) else m) m ≤ m ∧ (∀ s ∈ l, l.foldl (fun m s => if (s.length : Int) < m then (s.length : Int) else m) m ≤ (s.length : Int)) ∧
      (l.foldl (fun m s => if (s.length : Int) < m then (s.length : Int) else m) m = m ∨ ∃ s ∈ l, l.foldl (fun m s => if (s.length : Int) < m then (s.length : Int) else m) m = s.length) := by
    intro l
    induction l with
    | nil => intro m; simp
    | cons s l ih =>
      intro m
      rw [List.foldl_cons]
      obtain ⟨h1, h2, h3⟩ := ih (if (s.length : Int) < m then (s.length : Int) else m)
      refine ⟨by split at h1 <;> split <;> omega, fun x hx => ?_, ?_⟩
      · rcases List.mem_cons.1 hx with rfl | hx
        · split at h1 <;> split <;> omega
        · exact h2 x hx
      · rcases h3 with h3 | ⟨x, hx, h3⟩
        · rw [h3]
          split
          · exact .inr ⟨s, by simp, rfl⟩
          · exact .inl rfl
        · exact .inr ⟨x, by simp [hx], h3⟩
  exact ⟨(go l 8).2.1, (go l 8).2.2⟩
theorem pureC_iff {l : Cx} (h8 : ∀ s ∈ l, s.length ≠ 0 ∧ s.length ≤ 8) : pureC l = true ↔ ∀ s ∈ l, ∀ t ∈ l, s.length = t.length := by
  obtain ⟨m1, m2⟩ := most_max l
  obtain ⟨n1, n2⟩ := least_min l
  unfold pureC
  simp only [Bool.or_eq_true, decide_eq_true_eq]
  constructor
  · rintro (h | h) s hs t ht
    · have := m1 s hs; have := h8 s hs; omega
    · have := m1 s hs; have := m1 t ht; have := n1 s hs; have := n1 t ht; omega
  · intro h
    rcases m2 with m2 | ⟨s, hs, m2⟩
    · exact .inl m2
    · right
      rcases n2 with n2 | ⟨t, ht, n2⟩
      · have := n1 s hs; have := h8 s hs; omega
      · rw [m2, n2, h s hs t ht]
theorem sizeP_iff {l : Cx} : sizeP l = true ↔ ∀ s ∈ l, ∀ t ∈ l, s.length = t.length := by
  unfold sizeP
  rw [List.all_eq_true]
  simp only [List.mem_range, Bool.or_eq_true, decide_eq_true_eq]
  constructor
  · intro h
    have key : ∀ n, n ≤ l.length → 0 < n → ∀ (h0 : 0 < l.length), dimC (l.take n) = (l[0].length : Int) - 1 ∧ ∀ (i : Nat) (hi : i < l.length), i < n → l[i].length = l[0].length := by
      intro n
      induction n with
      | zero => intro _ h; omega
      | succ n ih =>
        intro hn _ h0
        by_cases hz : n = 0
        · subst hz
          refine ⟨?_, fun i hi hi1 => ?_⟩
          · rw [dimC_snoc (by omega)]
            simp [dimC]; omega
          · have : i = 0 := by omega
            subst this; rfl
        · obtain ⟨h1, h2⟩ := ih (by omega) (by omega) h0
          have h3 := h n (by omega)
          rcases h3 with h3 | h3
          · omega
          · rw [getD_at (by omega), h1] at h3
            refine ⟨?_, fun i hi hi1 => ?_⟩
            · rw [dimC_snoc (by omega), h1, h3, if_neg (by omega)]
            · by_cases hin : i = n
              · subst hin; omega
              · exact h2 i hi (by omega)
    intro s hs t ht
    obtain ⟨i, hi, rfl⟩ := List.getElem_of_mem hs
    obtain ⟨j, hj, rfl⟩ := List.getElem_of_mem ht
    obtain ⟨_, h2⟩ := key l.length (Nat.le_refl _) (by omega) (by omega)
    rw [h2 i hi hi, h2 j hj hj]
  · intro h i hi
    by_cases hz : i = 0
    · exact .inl hz
    · right
      rw [getD_at hi, ← most_dim]
      obtain ⟨m1, m2⟩ := most_max (l.take i)
      have h0 : l[0]'(by omega) ∈ l.take i := by rw [List.mem_take_iff_getElem]; exact ⟨0, by omega, rfl⟩
      rcases m2 with m2 | ⟨t, ht, m2⟩
      · have h1 := m1 _ h0
        have h2 := h l[i] (List.getElem_mem hi) (l[0]'(by omega)) (List.getElem_mem _)
        rw [m2]; omega
      · have h2 := h l[i] (List.getElem_mem hi) t (List.mem_of_mem_take ht)
        rw [m2, h2]
theorem pure_size {l : Cx} (h : ∀ s ∈ l, chkV s = 0) : pureC l = sizeP l := by
  rw [Bool.eq_iff_iff, pureC_iff (fun s hs => by have := chkV_zero.1 (h s hs); omega), sizeP_iff]
end Go.Proofs.YtjbepoofigokjaaGreat
namespace Go.Proofs.YtjbepoofigokjaaGreat
open Go.RowKit
set_option linter.unusedSimpArgs false

set_option maxHeartbeats 2000000
set_option maxRecDepth 100000
theorem cloneV_p (xs : List Vx) (hl : xs.length ≤ 1000) : Fn Tryz.prog 89 [dS Verts xs] (dS Verts xs) := by
  (refine Fn.intro1 Tryz.func89 rfl rfl ?_; simp only [Tryz.ntmps89, List.length_cons, List.length_nil, Nat.reduceAdd, Nat.reduceSub, List.replicate_succ, List.replicate_zero, List.cons_append, List.nil_append])
  ((repeat' (first |  (refine WL.openE 4 rfl fun b hb => ?_; dsimp only [z0, z1]) | (apply WL.opN; exact yF; dsimp only [setD, z0, z1]) | refine WL.nil ?_ | refine WC.seqK fun Kx hK => ?_ | (refine hK _ _ ?_; clear hK) | refine WC.region ?_ |  (apply WL.build0K elV RV (by decide); (intro _; dsimp only [setD, z0, z1]); all_goals (try infer_instance)) | ((first | apply WL.appK | apply WL.app1); (exact eD); exact OpD.t rfl; (exact oD); decide; (exact lD); (intro _; dsimp only [setD, z0, z1]); all_goals (try infer_instance)) | (apply WL.opN; (focus ((first | (apply SY.eqNil; exact OpD.t rfl; (exact fun _ _ _ h => nil_K h); exact len_K; exact eqNilV) | fail); all_goals infer_instance)); dsimp only [setD, z0, z1]) | (apply WC.cond; (exact oD); all_goals (intro h; try exact xD)) | refine WC.skip ?_ | refine WC.ret ?_ | refine ThenD.r ?_)); all_goals (first | ((repeat clear hK); (repeat clear Kx))))
  · rw [hb h]; (refine ⟨trivial, _, rfl, ?_⟩; exact fD)
  · rw [List.nil_append]; (refine ⟨trivial, _, rfl, ?_⟩; exact fD)
theorem ok_vx {s : List Vx} (h : chkV s = 0) : ∀ v ∈ s, okV v := fun v hv => by
  have := rngV_iff.1 ((chkV_zero.1 h).2.2.1 v hv)
  unfold okV is64
  omega
theorem contI_nodup {l : Cx} : ∀ n, n ≤ l.length → ((incC (l.take n)).map (·.1)).Nodup ∧ ∀ v, v ∈ (incC (l.take n)).map (·.1) → ∃ s ∈ l, v ∈ s := by
  have put : ∀ (m : List (Vx × List Int)) (v : Vx) (i : Int), (m.map (·.1)).Nodup → ((addI m v i).map (·.1)).Nodup ∧ ∀ u, u ∈ (addI m v i).map (·.1) → u = v ∨ u ∈ m.map (·.1) := by
    intro m v i hm
    unfold addI putM
    split
    · rename_i h
      have e : (m.map fun p => if p.1 = v then (v, (lookM m v).getD [] ++ [i]) else p).map (·.1) = m.map (·.1) := by
        rw [List.map_map]
        refine List.map_congr_left fun p _ => ?_
        show (if p.1 = v then (v, (lookM m v).getD [] ++ [i]) else p).1 = p.1
        split
        · rename_i h; exact h.symm
        · rfl
      rw [e]
      exact ⟨hm, fun u hu => .inr hu⟩
    · rename_i h
      rw [List.map_append]
      refine ⟨?_, fun u hu => ?_⟩
      · rw [List.nodup_append]
        refine ⟨hm, by simp, fun a ha b hb => ?_⟩
        have : b = v := by simpa using hb
        subst this
        intro hab
        subst hab
        obtain ⟨p, hp, hpv⟩ := List.mem_map.1 ha
        apply h
        unfold lookM
        rw [Option.isSome_map]
        rw [List.find?_isSome]
        exact ⟨p, hp, by simpa using hpv⟩
      · rcases List.mem_append.1 hu with hu | hu
        · exact .inr hu
        · exact .inl (by simpa using hu)
  have all : ∀ (s : List Vx) (m : List (Vx × List Int)) (i : Int), (m.map (·.1)).Nodup → ((incS m s i).map (·.1)).Nodup ∧ ∀ u, u ∈ (incS m s i).map (·.1) → u ∈ s ∨ u ∈ m.map (·.1) := by
    intro s
    induction s with
    | nil => intro m i hm; exact ⟨hm, fun u hu => .inr hu⟩
    | cons v s ih =>
      intro m i hm
      obtain ⟨h1, h2⟩ := put m v i hm
      obtain ⟨h3, h4⟩ := ih (addI m v i) i h1
      refine ⟨h3, fun u hu => ?_⟩
      rcases h4 u hu with h | h
      · exact .inl (by simp [h])
      · rcases h2 u h with h | h
        · exact .inl (by simp [h])
        · exact .inr h
  intro n
  induction n with
  | zero => intro _; exact ⟨by simp [incC], fun v hv => by simp [incC] at hv⟩
  | succ n ih =>
    intro hn
    obtain ⟨h1, h2⟩ := ih (by omega)
    rw [incC_snoc (by omega)]
    obtain ⟨h3, h4⟩ := all l[n] (incC (l.take n)) (n : Int) h1
    refine ⟨h3, fun v hv => ?_⟩
    rcases h4 v hv with h | h
    · exact ⟨l[n], List.getElem_mem _, h⟩
    · exact h2 v h
theorem incC_nodup (l : Cx) : ((incC l).map (·.1)).Nodup := by
  have := (contI_nodup (l := l) l.length (Nat.le_refl _)).1
  rwa [List.take_length] at this
theorem incC_ok {l : Cx} (h : ∀ s ∈ l, chkV s = 0) : ∀ p ∈ incC l, okV p.1 := fun p hp => by
  have := (contI_nodup (l := l) l.length (Nat.le_refl _)).2 p.1
  rw [List.take_length] at this
  obtain ⟨s, hs, hv⟩ := this (List.mem_map_of_mem hp)
  exact ok_vx (h s hs) _ hv
theorem isKV {x : Vx} : IsV (dS RV x) (kvV x) := ⟨fun _ _ _ h => h⟩
theorem pos_chk {s : List Vx} (h : chkV s = 0) : 0 < s.length := by have := chkV_zero.1 h; omega
theorem len_chk {s : List Vx} (h : chkV s = 0) : s.length ≤ 8 := by have := chkV_zero.1 h; omega
set_option maxHeartbeats 4000000 in
theorem complexOf_p (l : Cx) (hg : ∀ s ∈ l, chkV s = 0) (hl : l.length ≤ 1000000) : Fn Tryz.prog 65 [dS Simps l] (dS Cpx (maxC l)) := by
  (refine Fn.introC1 tyC Tryz.func65 rfl rfl ?_; simp only [Tryz.ntmps65, List.length_cons, List.length_nil, Nat.reduceAdd, Nat.reduceSub, List.replicate_succ, List.replicate_zero, List.cons_append, List.nil_append])
  (repeat' (first | ((first | apply WL.opN | apply WD.opN); exact yF; dsimp only [setD, z0, z1]) | refine WL.nil ?_ | refine WC.seqK fun Kx hK => ?_ | (refine hK _ _ ?_; clear hK) | refine WC.region ?_ |  (refine WL.alloc tzC (shape_C0 rfl) fun b2 => ?_; dsimp only [setD, z0, z1]) |  (refine WL.callC (hp1 := []) (caps := []) (clone_s l hl) Tryz.call74 OpD.f (by (exact aD)) ?_; rintro d' hp2 ⟨v, rfl, rfl⟩; dsimp only [setD, z0, z1, List.cons_append, List.nil_append]) |  (apply WL.sortS; exact OpD.t rfl; omega; intro ys hperm hsort; dsimp only [setD, z0, z1])))
  refine WL.callC (hp1 := [_]) (caps := []) (compact_s ys v hsort (by rw [hperm.length_eq]; omega)) Tryz.call103 OpD.f (ArgsD.cons (OpD.t rfl) (ArgsD.cons ⟨le_fun Tryz.call104 fun x : List Vx × List Vx => eqV_p x.1 x.2⟩ ArgsD.nil)) ?_
  rintro d' hp2 ⟨v2, zs, hzs, rfl, rfl⟩
  dsimp only [setD, z0, z1, List.cons_append, List.nil_append]
  (repeat' (first | ((first | apply WL.opN | apply WD.opN); exact yF; dsimp only [setD, z0, z1]) | refine WL.nil ?_ | refine WC.seqK fun Kx hK => ?_ | (refine hK _ _ ?_; clear hK) | refine WC.region ?_))
  refine WL.keep2 (s := 0) (t := 13) rfl rfl ?_
  dsimp only [z0, z1]
  have hzg : ∀ s ∈ zs, chkV s = 0 := fun s hs => hg s (hperm.mem_iff.1 ((hzs.2 s).1 hs))
  have hzl : zs.length ≤ 1000000 := by
    have h1 := hperm.length_eq
    have h2 : zs.length ≤ ys.length := List.Nodup.length_le_of_subset hzs.1.nodup fun x hx => (hzs.2 x).1 hx
    omega
  (repeat' (first | ((first | apply WL.opN | apply WD.opN); exact yF; dsimp only [setD, z0, z1]) | refine WL.nil ?_ | refine WC.seqK fun Kx hK => ?_ | (refine hK _ _ ?_; clear hK) | refine WC.region ?_ |  (refine WL.alloc tzC (shape_C0 rfl) fun b4 => ?_; dsimp only [setD, z0, z1]) | ((first | apply WL.opN | apply WD.opN); (focus ((first | (apply SY.call (incidence_p zs hzl (fun s hs => ok_vx (hzg s hs)) (fun s hs => Nat.le_trans (len_chk (hzg s hs)) (by decide))) Tryz.call67; (exact aD)) | exact yLen | fail); all_goals infer_instance)); dsimp only [setD, z0, z1]) | refine WC.block ?_))
  have hgood : zs.filter (fun s => !coveredC zs s) = maxC l := maxC_eq (fun s hs => pos_chk (hg s hs)) hzs.1 fun u => (hzs.2 u).trans hperm.mem_iff
  refine WC.nilRow 34 Verts ?_
  (refine WC.loopU (X := Nat × Value × Cx) (fun x => [(17, dI (x.1 : Int)), (6, dA), (18, dA), (19, dA), (20, dA), (21, dA), (22, dA), (23, dA), (24, dA), (25, dA), (26, dA), (27, dA), (28, dA), (29, dA), (30, dA), (31, dA), (32, dA), (33, dA), (34, dA), (35, dA), (36, dA), (37, dA)]) (fun x => (hRow x.2.1 34 Verts x.2.2 :: hC1 b4 24 x.2.1 :: hCell b2 24 1 true (dX (.agg #[.slice none 0 0])) :: [])) (fun x => zs.length - x.1) (fun x => x.1 ≤ zs.length ∧ x.2.2 = (zs.take x.1).filter (fun s => !coveredC zs s)) (0, .slice none 0 0, []) ?start ?frame0 ?objs0 ?round)
  case start => exact ⟨Nat.zero_le _, by simp⟩
  case frame0 => ((try dsimp only [upds, z0, z1]); repeat (first | exact LeF.nil | refine LeF.co (k := ?_)))
  case objs0 => rfl
  case round =>
    rintro ⟨k, v, o⟩ ⟨h1, h2⟩
    simp only at h1 h2
    have hol : o.length ≤ 1000000 := by
      have h3 := List.length_filter_le (fun s => !coveredC zs s) (zs.take k)
      rw [List.length_take, ← h2] at h3
      omega
    dsimp only [upds, z0, z1]
    ((repeat' (first |  (apply WC.drawTail 5; kernel_rfl; kernel_rfl; simp only [List.take_succ_cons, List.take_zero, List.drop_succ_cons, List.drop_zero]) | ((first | apply WL.opN | apply WD.opN); exact yF; dsimp only [setD, z0, z1]) | refine WL.nil ?_ | refine WD.nil ?_ | refine WC.seqK fun Kx hK => ?_ | (refine hK _ _ ?_; clear hK) | (refine Kont.skip ?_; clear hK) | refine WC.region ?_ |  (refine WL.perm (List.Perm.swap _ _ _) ?_; refine WL.storeC1 tySS (OpD.t rfl) (OpD.t rfl) (.head _) ?_; refine WL.perm (List.Perm.swap _ _ _) ?_; dsimp only [setD, z0, z1]) | ((first | apply WL.appK | apply WL.app1); (exact eD); exact OpD.t rfl; (exact oD); decide; (exact lD); (intro _; dsimp only [setD, z0, z1]); all_goals (try infer_instance)) | ((first | apply WL.opN | apply WD.opN); (focus ((first | (apply SY.ixKJ elV (OpD.t rfl) OpD.i 0 rfl; exact pos_chk (hzg _ (List.getElem_mem _))) | (refine SY.lookR (a0 := ([] : List Int)) mapT_inc keyT_V (OpD.t rfl) (OpD.t rfl) isKV (ok_vx (hzg _ (List.getElem_mem _)) _ (List.getElem_mem _)) (incC_ok hzg) (incC_nodup zs) (fun _ _ => Arr.nil')) | (apply SY.call (coveredP_p _ _ _ atM_bnd) Tryz.call68; (exact aD)) | (apply SY.fldX cpxT; exact OpD.t rfl) | (apply SY.loadC1 tySS; exact OpD.t rfl; exact .tail _ (.head _)) | (apply SY.call (cloneV_p _ (Nat.le_trans (len_chk (hzg _ (List.getElem_mem _))) (by decide))) Tryz.call89; (exact aD)) | exact yLss | exact yNot | exact yAdd | exact yIndexaddr | exact yBuildslice | fail); all_goals infer_instance)); dsimp only [setD, z0, z1]) | (apply WC.condD; (exact oD); all_goals (intro h; try exact xD)) | (apply WC.condNB; (exact oD); all_goals (intro h; try exact xD)) | refine WC.skip ?_ | refine WC.exit ?_ | refine WC.block ?_ | refine ThenD.n ?_)); all_goals (first | refine WL.id ?_ | ((repeat clear hK); (repeat clear Kx))))
    · rename_i h0 v'
      rw [anyCov hzg (hzg _ (List.getElem_mem (show k < zs.length by omega))) (List.getElem_mem _)] at h
      (refine ⟨(k + 1, v', o ++ [zs[k]]), ?_, by first | omega | (simp only; omega), rfl, ?_⟩; rotate_left; ((try dsimp only [upds, z0, z1]); repeat (first | exact LeF.nil | refine LeF.co (k := ?_))); (try dsimp only))
      refine ⟨by omega, ?_⟩
      show o ++ _ = _
      rw [filt_snoc (by omega), if_pos (by rw [h]; rfl), h2]
    · rw [anyCov hzg (hzg _ (List.getElem_mem (show k < zs.length by omega))) (List.getElem_mem _)] at h
      (refine ⟨(k + 1, v, o), ?_, by first | omega | (simp only; omega), rfl, ?_⟩; rotate_left; ((try dsimp only [upds, z0, z1]); repeat (first | exact LeF.nil | refine LeF.co (k := ?_))); (try dsimp only))
      refine ⟨by omega, ?_⟩
      show o = _
      rw [filt_snoc (by omega), if_neg (by rw [h]; decide), h2, List.append_nil]
    · rw [List.take_of_length_le (by omega), hgood] at h2
      subst h2
      refine WL.knowRow (.head _) _root_.id fun hv => ?_
      obtain ⟨ad, c, rfl⟩ := hv
      ((repeat' (first | refine WL.nil ?_ | (refine hK _ _ ?_; clear hK) |  (apply WL.storeF3 tyC; rfl; exact OpD.t rfl; exact shape_C0 rfl; dsimp only [setD, z0, z1]) | ((first | apply WL.opN | apply WD.opN); (focus ((first | (apply SY.loadH tyC; exact OpD.t rfl; exact .tail _ (.head _)) | fail); all_goals infer_instance)); dsimp only [setD, z0, z1]) | refine WC.ret ?_)); all_goals (first | ((repeat clear hK); (repeat clear Kx))))
      exact ⟨trivial, _, rfl, FinD.rowC (.head _)⟩
end Go.Proofs.YtjbepoofigokjaaGreat
namespace Go.Proofs.YtjbepoofigokjaaGreat
open Go.RowKit
set_option linter.unusedSimpArgs false

set_option maxHeartbeats 2000000
set_option maxRecDepth 100000
theorem any_take {l : Cx} {p : List Vx → Bool} {k : Nat} (h : k < l.length) : (l.take (k + 1)).any p = ((l.take k).any p || p l[k]) := by rw [take_snoc' h, List.any_append]; simp
set_option maxHeartbeats 4000000 in
theorem check_p (l : Cx) : Fn Tryz.prog 35 [dS Cpx l] (dI (chkC l)) := by
  (refine Fn.intro1 Tryz.func35 rfl rfl ?_; simp only [Tryz.ntmps35, List.length_cons, List.length_nil, Nat.reduceAdd, Nat.reduceSub, List.replicate_succ, List.replicate_zero, List.cons_append, List.nil_append])
  ((repeat' (first | ((first | apply WL.opN | apply WD.opN); exact yF; dsimp only [setD, z0, z1]) | refine WL.nil ?_ | refine WC.seqK fun Kx hK => ?_ | (refine hK _ _ ?_; clear hK) | refine WC.region ?_ | ((first | apply WL.opG | apply WD.op); (focus (first | exact wN | (apply SYG.yes; (exact wY); ((first | exact yGtr | exact yLen | exact yFieldaddr | exact yBox | fail); all_goals infer_instance)))); dsimp only [setD, z0, z1]) | (apply WC.condD; (exact oD); all_goals (intro h; try exact xD)) | refine WC.skip ?_ | refine WC.ret ?_ | refine WC.block ?_ | refine ThenD.r ?_)); all_goals (first | refine WC.id ?_ | ((repeat clear hK); (repeat clear Kx))))
  · (refine ⟨trivial, _, rfl, ?_⟩; refine FinD.i ?_)
    unfold chkC; rw [if_pos (by omega)]
  · have hs : chkC l = if chkO none l ≠ 0 then chkO none l else if twiceC l = true then 7 else 0 := by unfold chkC; rw [if_neg (by omega)]
    (refine WC.loopU (X := Nat) (fun k => [(16, dI (k : Int)), (2, dA), (3, dA), (4, dA), (5, dA), (17, dA), (18, dA), (19, dA), (20, dA), (21, dA), (22, dA), (23, dA), (24, dA), (25, dA), (26, dA), (27, dA), (28, dA), (29, dA), (30, dA), (31, dA), (32, dA), (33, dA), (34, dA), (35, dA), (36, dA), (37, dA), (38, dA), (39, dA)]) (fun k => []) (fun k => l.length - k) (fun k => k ≤ l.length ∧ chkO none l = chkO (l.take k).getLast? (l.drop k)) 0 ?start ?frame0 ?objs0 ?round)
    case start => exact ⟨Nat.zero_le _, rfl⟩
    case frame0 => ((try dsimp only [upds, z0, z1]); repeat (first | exact LeF.nil | refine LeF.co (k := ?_)))
    case objs0 => rfl
    case round =>
      rintro k ⟨h3, h4⟩
      dsimp only [upds, z0, z1]
      ((repeat' (first | ((first | apply WL.opN | apply WD.opN); exact yF; dsimp only [setD, z0, z1]) | refine WL.nil ?_ | refine WC.seqK fun Kx hK => ?_ | (refine hK _ _ ?_; clear hK) | (refine Kont.skip ?_; clear hK) | refine WC.region ?_ | ((first | apply WL.opG | apply WD.op); (focus (first | exact wN | (apply SYG.yes; (exact wY); ((first | (apply SY.call (cmpL_p _ _) Tryz.call66; (exact aD)) | (apply SY.call (chk_p _) Tryz.call47; (exact aD)) | (apply SY.ixJ elSi (OpD.t rfl) (OpD.t rfl) (k - 1); omega; omega) | exact yMove | exact yLss | exact yGtr | exact yGeq | exact yNeq | exact yAdd | exact ySub | exact yLoad | exact yIndexaddr | exact yFieldaddr | exact yPick | fail); all_goals infer_instance)))); dsimp only [setD, z0, z1]) | ((first | refine WL.caseP rfl rfl rfl (fun h => ?_) (fun h => ?_) | refine WL.caseN rfl rfl rfl (fun h => ?_) (fun h => ?_) | refine WL.caseB rfl rfl rfl (fun h => ?_) (fun h => ?_) | refine WD.caseP rfl rfl rfl (fun h => ?_) (fun h => ?_) | refine WD.caseN rfl rfl rfl (fun h => ?_) (fun h => ?_) | refine WD.caseB rfl rfl rfl (fun h => ?_) (fun h => ?_)) <;> (first | (exfalso; first | omega | contradiction) | (dsimp only [z0, z1]))) | (apply WC.condF; (exact oD); (with_reducible rfl)) | (apply WC.condD; (exact oD); all_goals (intro h; try exact xD)) | (apply WC.condN; (exact oD); all_goals (intro h; try exact xD)) | refine WC.skip ?_ | refine WC.ret ?_ | refine WC.exit ?_ | refine WC.block ?_ | refine ThenD.n ?_ | refine ThenD.r ?_ | refine InBlockD.r ?_)); all_goals (first | refine WL.id ?_ | ((repeat clear hK); (repeat clear Kx))))
      all_goals try (rw [chkO_drop l k (by omega)] at h4)
      · (refine ⟨trivial, _, rfl, ?_⟩; refine FinD.i ?_)
        rw [hs, h4, if_pos h, if_pos h]
      · (refine ⟨trivial, _, rfl, ?_⟩; refine FinD.i ?_)
        have h5 : ¬ chkV l[k] ≠ 0 := by omega
        rw [if_neg h5, lastC_take _ _ (by omega) (by omega), if_pos (by simpa using h)] at h4
        rw [hs, h4]; rfl
      · (refine ⟨k + 1, ?_, by first | omega | (simp only; omega), rfl, ?_⟩; rotate_left; ((try dsimp only [upds, z0, z1]); repeat (first | exact LeF.nil | refine LeF.co (k := ?_))); (try dsimp only))
        refine ⟨by omega, ?_⟩
        have h5 : ¬ chkV l[k] ≠ 0 := by omega
        rw [h4, if_neg h5, lastC_take _ _ (by omega) (by omega), if_neg (by simpa using h)]
      · (refine ⟨k + 1, ?_, by first | omega | (simp only; omega), rfl, ?_⟩; rotate_left; ((try dsimp only [upds, z0, z1]); repeat (first | exact LeF.nil | refine LeF.co (k := ?_))); (try dsimp only))
        refine ⟨by omega, ?_⟩
        have h5 : ¬ chkV l[k] ≠ 0 := by omega
        have h0 : (l.take k).getLast? = none := by
          have : k = 0 := by omega
          rw [this]; rfl
        rw [h4, if_neg h5, h0]
        rfl
      · rw [List.drop_of_length_le (by omega)] at h4
        have h4' : chkO none l = 0 := h4
        have hs' : chkC l = if twiceC l = true then 7 else 0 := by rw [hs, if_neg (by omega)]
        clear hs h4
        obtain ⟨ha, _, hg⟩ := chkO_asc l none h4'
        rw [twice_any ha hg] at hs'
        have hl1 : l.length ≤ 1000000 := by omega
        (repeat' (first | ((first | apply WL.opN | apply WD.opN); exact yF; dsimp only [setD, z0, z1]) | refine WL.nil ?_ | refine WC.seqK fun Kx hK => ?_ | (refine hK _ _ ?_; clear hK) | refine WC.region ?_ | ((first | apply WL.opG | apply WD.op); (focus (first | exact wN | (apply SYG.yes; (exact wY); ((first | (apply SY.call (incidence_p l hl1 (fun s hs => ok_vx (hg s hs)) (fun s hs => Nat.le_trans (len_chk (hg s hs)) (by decide))) Tryz.call67; (exact aD)) | exact yLen | exact yFieldaddr | fail); all_goals infer_instance)))); dsimp only [setD, z0, z1]) | refine WC.block ?_))
        (refine WC.loopU (X := Nat) (fun i => [(46, dI (i : Int)), (2, dA), (8, dA), (47, dA), (48, dA), (49, dA), (50, dA), (51, dA), (52, dA), (53, dA), (54, dA), (55, dA), (56, dA), (57, dA), (58, dA), (59, dA)]) (fun i => []) (fun i => l.length - i) (fun i => i ≤ l.length ∧ (l.take i).any (fun s => coveredC l s) = false) 0 ?start ?frame0 ?objs0 ?round)
        case start => exact ⟨Nat.zero_le _, rfl⟩
        case frame0 => ((try dsimp only [upds, z0, z1]); repeat (first | exact LeF.nil | refine LeF.co (k := ?_)))
        case objs0 => rfl
        case round =>
          rintro i ⟨h5, h6⟩
          dsimp only [upds, z0, z1]
          ((repeat' (first | ((first | apply WL.opN | apply WD.opN); exact yF; dsimp only [setD, z0, z1]) | refine WL.nil ?_ | refine WD.nil ?_ | refine WC.seqK fun Kx hK => ?_ | (refine hK _ _ ?_; clear hK) | (refine Kont.skip ?_; clear hK) | refine WC.region ?_ | (apply WC.draw; kernel_rfl; kernel_rfl) | ((first | apply WL.opG | apply WD.op); (focus (first | exact wN | (apply SYG.yes; (exact wY); ((first | (apply SY.ixKJ elV (OpD.t rfl) OpD.i 0 rfl; exact pos_chk (hg _ (List.getElem_mem _))) | (refine SY.lookR (a0 := ([] : List Int)) mapT_inc keyT_V (OpD.t rfl) (OpD.t rfl) isKV (ok_vx (hg _ (List.getElem_mem _)) _ (List.getElem_mem _)) (incC_ok hg) (incC_nodup l) (fun _ _ => Arr.nil')) | (apply SY.call (coveredP_p _ _ _ atM_bnd) Tryz.call68; (exact aD)) | exact yLss | exact yAdd | exact yIndexaddr | exact yFieldaddr | fail); all_goals infer_instance)))); dsimp only [setD, z0, z1]) | (apply WC.condD; (exact oD); all_goals (intro h; try exact xD)) | (apply WC.cond; (exact oD); all_goals (intro h; try exact xD)) | refine WC.skip ?_ | refine WC.ret ?_ | refine WC.exit ?_ | refine WC.block ?_ | refine ThenD.n ?_ | refine ThenD.r ?_ | refine InBlockD.r ?_)); all_goals (first | ((repeat clear hK); (repeat clear Kx))))
          · rw [anyCov hg (hg _ (List.getElem_mem (show i < l.length by omega))) (List.getElem_mem _)] at h
            (refine ⟨trivial, _, rfl, ?_⟩; refine FinD.i ?_)
            rw [hs', if_pos]
            exact List.any_eq_true.2 ⟨l[i], List.getElem_mem _, h⟩
          · rw [anyCov hg (hg _ (List.getElem_mem (show i < l.length by omega))) (List.getElem_mem _)] at h
            (refine ⟨i + 1, ?_, by first | omega | (simp only; omega), rfl, ?_⟩; rotate_left; ((try dsimp only [upds, z0, z1]); repeat (first | exact LeF.nil | refine LeF.co (k := ?_))); (try dsimp only))
            exact ⟨by omega, by rw [any_take (by omega), h6, h]; rfl⟩
          · rw [List.take_of_length_le (by omega)] at h6
            (refine ⟨trivial, _, rfl, ?_⟩; refine FinD.i ?_)
            rw [hs', if_neg (by rw [h6]; decide)]
end Go.Proofs.YtjbepoofigokjaaGreat
