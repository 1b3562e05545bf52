/-
  Part 27 of the texts that the claims of this seat lean on: walks of the program's functions by contracts over symbolic frames, and plain laws of what they compute. No condition.
-/
import Derived.Test.YtjbepoofigokjaaGreatVc18
import Derived.Test.YtjbepoofigokjaaGreatVc24
import Derived.Test.YtjbepoofigokjaaGreatVc26
set_option linter.unusedVariables false
set_option linter.unusedSimpArgs false
set_option linter.unusedSectionVars false
namespace Go.Proofs.YtjbepoofigokjaaGreat
open Go.RowKit
set_option linter.unusedSimpArgs false

set_option maxHeartbeats 2000000
set_option maxRecDepth 100000
set_option maxHeartbeats 8000000 in
theorem left_c (l : Cx) (x : Cl) (hx : 0 < x.2.length ∧ x.2.length ≤ 8) (hl : l.length ≤ 5000) : Fn Tryz.prog 52 [dS Cpx l, dS Col x] (dS Cpx (leftC l x)) := by
  (refine Fn.introC1 tyC Tryz.func52 rfl rfl ?_; simp only [Tryz.ntmps52, List.length_cons, List.length_nil, Nat.reduceAdd, Nat.reduceSub, List.replicate_succ, List.replicate_zero, List.cons_append, List.nil_append])
  (repeat' (first | ((first | apply WL.opN | apply WD.opN); exact yF; dsimp only [setD, z0, z1]) | refine WL.nil ?_ | refine WC.seqK fun Kx hK => ?_ | (refine hK _ _ ?_; clear hK) | refine WC.region ?_ | (apply WL.alloc; (first | exact tzV | exact tzC); (first | exact shape_X rfl | exact shape_XV | exact shape_C0 rfl); (intro _; dsimp only [setD, z0, z1])) | ((first | apply WL.opN | apply WD.opN); (focus ((first | (apply SY.box; (exact oD); (exact hD)) | fail); all_goals infer_instance)); dsimp only [setD, z0, z1]) | refine WC.block ?_))
  rename Nat => b0
  refine WC.nilRow 34 Verts ?_
  (refine WC.loopU (X := Nat × Value) (fun y => [(6, dI (y.1 : Int)), (5, dX y.2), (9, dA), (10, dA), (11, dA), (12, dA), (13, dA), (14, dA), (15, dA), (16, dA), (17, dA), (18, dA), (19, dA), (20, dA), (21, dA), (22, dA), (23, dA), (24, dA), (25, dA), (26, dA), (27, dA), (28, dA), (29, dA), (30, dA), (31, dA), (32, dA)]) (fun y => [hRow y.2 34 Verts ((l.take y.1).filter fun f => decide (f ≠ x.2)), hCell b0 24 1 true (dX (.agg #[.slice none 0 0]))]) (fun y => l.length - y.1) (fun y => y.1 ≤ l.length) (0, .slice none 0 0) ?start ?frame0 ?objs0 ?round)
  case start => exact Nat.zero_le _
  case frame0 => ((try dsimp only [upds, z0, z1]); repeat (first | exact LeF.nil | refine LeF.co (k := ?_)))
  case objs0 => rfl
  case round =>
    rintro ⟨i, v⟩ h1
    simp only at h1
    dsimp only [upds, z0, z1]
    have hol : ((l.take i).filter fun f => decide (f ≠ x.2)).length ≤ l.length := Nat.le_trans (List.length_filter_le _ _) (by rw [List.length_take]; omega)
    by_cases hi : i < l.length
    · have c1 := same_c l[i] x.2
      have e := filt_snoc (p := fun f => decide (f ≠ x.2)) hi
      by_cases he : l[i] = x.2
      · rw [decide_eq_true (cmpL_eq.2 he)] at c1
        rw [if_neg (by simpa using he), List.append_nil] at e
        ((repeat' (first | ((first | apply WL.opN | apply WD.opN); exact yF; dsimp only [setD, z0, z1]) | refine WL.nil ?_ | refine WD.nil ?_ | refine WC.seqK fun Kx hK => ?_ | (refine hK _ _ ?_; clear hK) | refine WC.region ?_ | (apply WC.draw; kernel_rfl; kernel_rfl) | ((first | apply WL.opN | apply WD.opN); (focus ((first | (apply SY.call (c1) Tryz.call86; (exact aD)) | ((first | apply SY.move | apply SY.assign | apply SY.lss | apply SY.not) <;> (exact oD)) | ((first | apply SY.add | apply SY.sub) <;> first | exact oD | omega) | (apply SY.len; (exact oD); (exact nD); (exact uD)) | (apply SY.ix; (exact eD); (exact oD); (exact oD); exact kD) | (apply SY.fldC cpxT; exact OpD.t rfl) | (apply SY.fldP0 colT; exact OpD.t rfl) | (apply SY.fldP1 colT; exact OpD.t rfl) | fail); all_goals infer_instance)); dsimp only [setD, z0, z1]) | (apply WC.condD; (exact oD); all_goals (intro h; try exact xD)) | (apply WC.condNB; (exact oD); all_goals (intro h; try exact xD)) | refine WC.skip ?_ | refine WC.block ?_ | refine ThenD.n ?_)); all_goals (first | ((repeat clear hK); (repeat clear Kx))))
        (refine ⟨(i + 1, v) , ?_, by first | omega | (simp only; omega), by ((try simp only);  rw [e]), ?_⟩; rotate_left; ((try dsimp only [upds, z0, z1]); repeat (first | exact LeF.nil | refine LeF.co (k := ?_))); (try dsimp only))
        omega
      · rw [decide_eq_false (fun h => he (cmpL_eq.1 h))] at c1
        rw [if_pos (by simpa using he)] at e
        ((repeat' (first | ((first | apply WL.opN | apply WD.opN); exact yF; dsimp only [setD, z0, z1]) | refine WL.nil ?_ | refine WD.nil ?_ | refine WC.seqK fun Kx hK => ?_ | (refine hK _ _ ?_; clear hK) | refine WC.region ?_ | (apply WC.draw; kernel_rfl; kernel_rfl) | ((first | apply WL.pushK | apply WL.push1); (exact eD); exact OpD.t rfl; (exact oD); (intro _; exact hD); (exact (by simp)); (exact (by simp)); (first | exact ⟨by decide, by decide⟩ | skip); decide; (exact lD); (intro _; dsimp only [setD, z0, z1]); all_goals (try infer_instance)) | ((first | apply WL.opN | apply WD.opN); (focus ((first | (apply SY.call (c1) Tryz.call86; (exact aD)) | ((first | apply SY.move | apply SY.assign | apply SY.lss | apply SY.not) <;> (exact oD)) | ((first | apply SY.add | apply SY.sub) <;> first | exact oD | omega) | (apply SY.len; (exact oD); (exact nD); (exact uD)) | (apply SY.ix; (exact eD); (exact oD); (exact oD); exact kD) | (apply SY.fldC cpxT; exact OpD.t rfl) | (apply SY.fldP0 colT; exact OpD.t rfl) | (apply SY.fldP1 colT; exact OpD.t rfl) | fail); all_goals infer_instance)); dsimp only [setD, z0, z1]) | (apply WC.condD; (exact oD); all_goals (intro h; try exact xD)) | (apply WC.condNB; (exact oD); all_goals (intro h; try exact xD)) | refine WC.skip ?_ | refine WC.block ?_ | refine ThenD.n ?_)); all_goals (first | ((repeat clear hK); (repeat clear Kx))))
        (refine ⟨(i + 1, _) , ?_, by first | omega | (simp only; omega), by ((try simp only);  rw [e]), ?_⟩; rotate_left; ((try dsimp only [upds, z0, z1]); repeat (first | exact LeF.nil | refine LeF.co (k := ?_))); (try dsimp only))
        omega
    · rw [List.take_of_length_le (by omega)] at hol ⊢
      have c2 := subs_c (x.2.length - 1) x.2 (by omega) (by omega)
      have hT := subs_top hx.1
      generalize hTe : subsV (x.2.length - 1) x.2 = T at *
      (repeat' (first | ((first | apply WL.opN | apply WD.opN); exact yF; dsimp only [setD, z0, z1]) | refine WL.nil ?_ | refine WC.seqK fun Kx hK => ?_ | (refine hK _ _ ?_; clear hK) | (refine Kont.skip ?_; clear hK) | refine WC.region ?_ | ((first | apply WL.opN | apply WD.opN); (focus ((first | (apply SY.call (c2) Tryz.call83; (exact aD)) | ((first | apply SY.move | apply SY.assign | apply SY.lss | apply SY.not) <;> (exact oD)) | ((first | apply SY.add | apply SY.sub) <;> first | exact oD | omega) | (apply SY.len; (exact oD); (exact nD); (exact uD)) | (apply SY.fldC cpxT; exact OpD.t rfl) | (apply SY.fldP0 colT; exact OpD.t rfl) | (apply SY.fldP1 colT; exact OpD.t rfl) | fail); all_goals infer_instance)); dsimp only [setD, z0, z1]) | (apply WC.condD; (exact oD); all_goals (intro h; try exact xD)) | refine WC.exit ?_ | refine WC.block ?_))
      (refine WC.loopU (X := Nat × Value) (fun y => [(8, dI (y.1 : Int)), (5, dX y.2), (40, dA), (41, dA), (42, dA), (43, dA), (44, dA), (45, dA), (46, dA), (47, dA), (48, dA), (49, dA), (50, dA), (51, dA), (52, dA), (53, dA), (54, dA), (55, dA), (56, dA), (57, dA), (58, dA), (59, dA), (60, dA)]) (fun y => [hRow y.2 34 Verts ((l.filter fun f => decide (f ≠ x.2)) ++ (T.take y.1).filter fun t => decide (t ≠ x.1)), hCell b0 24 1 true (dX (.agg #[.slice none 0 0]))]) (fun y => T.length - y.1) (fun y => y.1 ≤ T.length) (0, v) ?start ?frame0 ?objs0 ?round)
      case start => exact Nat.zero_le _
      case frame0 => ((try dsimp only [upds, z0, z1]); repeat (first | exact LeF.nil | refine LeF.co (k := ?_)))
      case objs0 => simp
      case round =>
        rintro ⟨j, u⟩ k1
        simp only at k1
        dsimp only [upds, z0, z1]
        have hot : ((l.filter fun f => decide (f ≠ x.2)) ++ (T.take j).filter fun t => decide (t ≠ x.1)).length ≤ l.length + 8 := by
          have h5 := List.length_filter_le (fun t => decide (t ≠ x.1)) (T.take j)
          rw [List.length_take] at h5
          rw [List.length_append]; omega
        by_cases hj : j < T.length
        · have c3 := same_c T[j] x.1
          have e := filt_snoc (p := fun t => decide (t ≠ x.1)) hj
          by_cases he : T[j] = x.1
          · rw [decide_eq_true (cmpL_eq.2 he)] at c3
            rw [if_neg (by simpa using he), List.append_nil] at e
            ((repeat' (first | ((first | apply WL.opN | apply WD.opN); exact yF; dsimp only [setD, z0, z1]) | refine WL.nil ?_ | refine WD.nil ?_ | refine WC.seqK fun Kx hK => ?_ | (refine hK _ _ ?_; clear hK) | refine WC.region ?_ | (apply WC.draw; kernel_rfl; kernel_rfl) | ((first | apply WL.opN | apply WD.opN); (focus ((first | (apply SY.call (c3) Tryz.call86; (exact aD)) | ((first | apply SY.move | apply SY.assign | apply SY.lss | apply SY.not) <;> (exact oD)) | ((first | apply SY.add | apply SY.sub) <;> first | exact oD | omega) | (apply SY.len; (exact oD); (exact nD); (exact uD)) | (apply SY.ix; (exact eD); (exact oD); (exact oD); exact kD) | (apply SY.fldP0 colT; exact OpD.t rfl) | (apply SY.fldP1 colT; exact OpD.t rfl) | fail); all_goals infer_instance)); dsimp only [setD, z0, z1]) | (apply WC.condD; (exact oD); all_goals (intro h; try exact xD)) | (apply WC.condNB; (exact oD); all_goals (intro h; try exact xD)) | refine WC.skip ?_ | refine WC.block ?_ | refine ThenD.n ?_)); all_goals (first | ((repeat clear hK); (repeat clear Kx))))
            (refine ⟨(j + 1, u) , ?_, by first | omega | (simp only; omega), by ((try simp only);  rw [e]), ?_⟩; rotate_left; ((try dsimp only [upds, z0, z1]); repeat (first | exact LeF.nil | refine LeF.co (k := ?_))); (try dsimp only))
            omega
          · rw [decide_eq_false (fun h => he (cmpL_eq.1 h))] at c3
            rw [if_pos (by simpa using he)] at e
            ((repeat' (first | ((first | apply WL.opN | apply WD.opN); exact yF; dsimp only [setD, z0, z1]) | refine WL.nil ?_ | refine WD.nil ?_ | refine WC.seqK fun Kx hK => ?_ | (refine hK _ _ ?_; clear hK) | refine WC.region ?_ | (apply WC.draw; kernel_rfl; kernel_rfl) | ((first | apply WL.pushK | apply WL.push1); (exact eD); exact OpD.t rfl; (exact oD); (intro _; exact hD); (exact (by simp)); (exact (by simp)); (first | exact ⟨by decide, by decide⟩ | skip); decide; (exact lD); (intro _; dsimp only [setD, z0, z1]); all_goals (try infer_instance)) | ((first | apply WL.opN | apply WD.opN); (focus ((first | (apply SY.call (c3) Tryz.call86; (exact aD)) | ((first | apply SY.move | apply SY.assign | apply SY.lss | apply SY.not) <;> (exact oD)) | ((first | apply SY.add | apply SY.sub) <;> first | exact oD | omega) | (apply SY.len; (exact oD); (exact nD); (exact uD)) | (apply SY.ix; (exact eD); (exact oD); (exact oD); exact kD) | (apply SY.fldP0 colT; exact OpD.t rfl) | (apply SY.fldP1 colT; exact OpD.t rfl) | fail); all_goals infer_instance)); dsimp only [setD, z0, z1]) | (apply WC.condD; (exact oD); all_goals (intro h; try exact xD)) | (apply WC.condNB; (exact oD); all_goals (intro h; try exact xD)) | refine WC.skip ?_ | refine WC.block ?_ | refine ThenD.n ?_)); all_goals (first | ((repeat clear hK); (repeat clear Kx))))
            (refine ⟨(j + 1, _) , ?_, by first | omega | (simp only; omega), by ((try simp only);  rw [e, List.append_assoc]), ?_⟩; rotate_left; ((try dsimp only [upds, z0, z1]); repeat (first | exact LeF.nil | refine LeF.co (k := ?_))); (try dsimp only))
            omega
        · rw [List.take_of_length_le (by omega)] at hot ⊢
          have cM := maximal_c _ (Nat.le_trans hot (by omega))
          (repeat' (first | ((first | apply WL.opN | apply WD.opN); exact yF; dsimp only [setD, z0, z1]) | refine WL.nil ?_ | refine WC.seqK fun Kx hK => ?_ | (refine hK _ _ ?_; clear hK) | (refine Kont.skip ?_; clear hK) | refine WC.region ?_ | ((first | apply WL.opN | apply WD.opN); (focus ((first | ((first | apply SY.move | apply SY.assign | apply SY.lss | apply SY.not) <;> (exact oD)) | (apply SY.len; (exact oD); (exact nD); (exact uD)) | fail); all_goals infer_instance)); dsimp only [setD, z0, z1]) | (apply WC.condD; (exact oD); all_goals (intro h; try exact xD)) | refine WC.exit ?_))
          refine WL.keep1 (s := 61) rfl ?_
          dsimp only [upds, z0, z1]
          ((repeat' (first | refine WL.nil ?_ | (refine hK _ _ ?_; clear hK) | (apply WL.storeF; (exact tD); rfl; (exact oD); (exact hD); dsimp only [setD, z0, z1]) | ((first | apply WL.opN | apply WD.opN); (focus ((first | (apply SY.call (cM) Tryz.call97; (exact aD)) | fail); all_goals infer_instance)); dsimp only [setD, z0, z1]) | refine WC.ret ?_)); all_goals (first | ((repeat clear hK); (repeat clear Kx))))
          (refine ⟨trivial, _, rfl, ?_⟩; refine FinD.s ?_)
          unfold leftC; rw [hTe]
end Go.Proofs.YtjbepoofigokjaaGreat
namespace Go.Proofs.YtjbepoofigokjaaGreat
def sgnC (s : List Vx) : Int := 2 * ((s.length : Int).tmod 2) - 1
def sumC (l : Cx) : Int := (l.map sgnC).sum
theorem sum_same {l : Cx} {k : Nat} (h : ∀ s ∈ l, s.length = k) : sumC l = (2 * ((k : Int) % 2) - 1) * l.length := by
  induction l with
  | nil => simp [sumC]
  | cons s l ih =>
    have h1 := ih fun x hx => h x (List.mem_cons_of_mem _ hx)
    have h2 := h s (by simp)
    have h3 : sumC (s :: l) = sgnC s + sumC l := by unfold sumC; simp
    have h4 : sgnC s = 2 * ((k : Int) % 2) - 1 := by unfold sgnC; rw [h2, Int.tmod_eq_emod_of_nonneg (by omega)]
    rw [h3, h1, h4, List.length_cons, Int.natCast_add, Int.mul_add]
    omega
theorem sum_up (l : Cx) : ∀ k, sumC (upC l k) = eulS l k
  | 0 => rfl
  | k + 1 => by
    have h1 := sum_up l k
    have h2 : sumC (allC l (k + 1)) = (2 * (((k + 1 : Nat) : Int) % 2) - 1) * (allC l (k + 1)).length := sum_same fun s hs => by
      obtain ⟨f, _, hx⟩ := allC_mem.1 hs
      exact ((subsV_mem _ _ _).1 hx).2
    have h3 : sumC (upC l (k + 1)) = sumC (upC l k) + sumC (allC l (k + 1)) := by
      show sumC (upC l k ++ allC l (k + 1)) = _
      unfold sumC; rw [List.map_append, List.sum_append]
    rw [h3, h1, h2]
    show _ = if (k + 1) % 2 = 1 then eulS l k + ((allC l (k + 1)).length : Int) else eulS l k - ((allC l (k + 1)).length : Int)
    by_cases h4 : (k + 1) % 2 = 1
    · have : ((k + 1 : Nat) : Int) % 2 = 1 := by omega
      rw [if_pos h4, this]; omega
    · have : ((k + 1 : Nat) : Int) % 2 = 0 := by omega
      rw [if_neg h4, this]; omega
theorem Gd.sum {l : Cx} (h : Gd l) : sumC (upC l 5) = eulS l 8 := by
  rw [sum_up]
  have h6 := h.none (k := 6) (by omega)
  have h7 := h.none (k := 7) (by omega)
  have h8 := h.none (k := 8) (by omega)
  have e : ∀ k, allC l (k + 1) = [] → eulS l (k + 1) = eulS l k := fun k hk => by
    show (if (k + 1) % 2 = 1 then eulS l k + ((allC l (k + 1)).length : Int) else eulS l k - ((allC l (k + 1)).length : Int)) = _
    rw [hk]; simp
  rw [e 7 h8, e 6 h7, e 5 h6]
end Go.Proofs.YtjbepoofigokjaaGreat
namespace Go.Proofs.YtjbepoofigokjaaGreat
set_option linter.unusedSectionVars false
section
variable {V : Type} [DecidableEq V]
def repM (m : List (V × V)) (v : V) : V := m.foldl (fun x p => if x = p.1 then p.2 else x) v
def depM (m : List (V × V)) (v : V) : Nat := (m.foldl (fun (x : V × Nat) p => if x.1 = p.1 then (p.2, x.2 + 1) else x) (v, 0)).2
theorem rep_dep (m : List (V × V)) (v : V) (n : Nat) : (m.foldl (fun (x : V × Nat) p => if x.1 = p.1 then (p.2, x.2 + 1) else x) (v, n)).1 = repM m v := by
  induction m generalizing v n with
  | nil => rfl
  | cons p m ih =>
    unfold repM at *
    rw [List.foldl_cons, List.foldl_cons]
    by_cases h : v = p.1
    · rw [if_pos h, if_pos h]; exact ih _ _
    · rw [if_neg h, if_neg h]; exact ih _ _
theorem rep_snoc (m : List (V × V)) (a b v : V) : repM (m ++ [(a, b)]) v = if repM m v = a then b else repM m v := by
  unfold repM; rw [List.foldl_append]; rfl
theorem dep_snoc (m : List (V × V)) (a b v : V) : depM (m ++ [(a, b)]) v = if repM m v = a then depM m v + 1 else depM m v := by
  have h := rep_dep m v 0
  unfold depM
  rw [List.foldl_append]
  simp only [List.foldl_cons, List.foldl_nil]
  rw [h]
  by_cases h1 : repM m v = a
  · rw [if_pos h1, if_pos h1]
  · rw [if_neg h1, if_neg h1]
inductive OkM : List (V × V) → Prop
  | nil : OkM []
  | snoc {m : List (V × V)} {a b : V} (h : OkM m) (ha : a ∉ m.map (·.1)) (hb : b ∉ m.map (·.1)) (hne : a ≠ b) : OkM (m ++ [(a, b)])
theorem look_snoc {m : List (V × V)} {a b v : V} (ha : a ∉ m.map (·.1)) : lookM (m ++ [(a, b)]) v = if v = a then some b else lookM m v := by
  unfold lookM
  rw [List.find?_append]
  by_cases h : v = a
  · subst h
    rw [if_pos rfl]
    have : m.find? (fun p => decide (p.1 = v)) = none := by
      rw [List.find?_eq_none]
      intro p hp hc
      exact ha (List.mem_map.2 ⟨p, hp, of_decide_eq_true hc⟩)
    rw [this]
    simp
  · rw [if_neg h]
    cases h1 : m.find? (fun p => decide (p.1 = v)) with
    | none =>
      have : decide (a = v) = false := decide_eq_false fun hc => h hc.symm
      simp [this]
    | some p => simp
theorem look_none {m : List (V × V)} {v : V} : lookM m v = none ↔ v ∉ m.map (·.1) := by
  unfold lookM
  rw [Option.map_eq_none_iff, List.find?_eq_none]
  constructor
  · intro h hc
    obtain ⟨p, hp, h1⟩ := List.mem_map.1 hc
    exact h p hp (decide_eq_true h1)
  · intro h p hp hc
    exact h (List.mem_map.2 ⟨p, hp, of_decide_eq_true hc⟩)
theorem rep_root {m : List (V × V)} (h : OkM m) {v : V} (hv : v ∉ m.map (·.1)) : repM m v = v ∧ depM m v = 0 := by
  induction h with
  | nil => exact ⟨rfl, rfl⟩
  | snoc h ha hb hne ih =>
    rename_i m a b
    rw [List.map_append, List.mem_append, not_or] at hv
    obtain ⟨h1, h2⟩ := ih hv.1
    have h3 : v ≠ a := by simpa using hv.2
    rw [rep_snoc, dep_snoc, h1, h2, if_neg h3, if_neg h3]
    exact ⟨rfl, rfl⟩
theorem rep_step {m : List (V × V)} (h : OkM m) {v u : V} (hv : lookM m v = some u) : repM m v = repM m u ∧ depM m u < depM m v := by
  induction h with
  | nil => simp [lookM] at hv
  | snoc h ha hb hne ih =>
    rename_i m a b
    rw [look_snoc ha] at hv
    by_cases h1 : v = a
    · rw [if_pos h1] at hv
      subst h1
      cases hv
      obtain ⟨h2, h3⟩ := rep_root h ha
      obtain ⟨h4, h5⟩ := rep_root h hb
      rw [rep_snoc, rep_snoc, dep_snoc, dep_snoc, h2, h3, h4, h5, if_pos rfl, if_neg (Ne.symm hne), if_pos rfl, if_neg (Ne.symm hne)]
      exact ⟨rfl, by omega⟩
    · rw [if_neg h1] at hv
      obtain ⟨h2, h3⟩ := ih hv
      rw [rep_snoc, rep_snoc, dep_snoc, dep_snoc, h2]
      refine ⟨rfl, ?_⟩
      by_cases h4 : repM m u = a
      · rw [if_pos h4, if_pos h4]; omega
      · rw [if_neg h4, if_neg h4]; exact h3
theorem rep_not {m : List (V × V)} (h : OkM m) (v : V) : repM m v ∉ m.map (·.1) := by
  induction h with
  | nil => simp
  | snoc h ha hb hne ih =>
    rename_i m a b
    rw [rep_snoc, List.map_append, List.mem_append]
    by_cases h1 : repM m v = a
    · rw [if_pos h1]; simp only [List.map_cons, List.map_nil, List.mem_singleton]
      exact fun hc => hc.elim hb fun hc => hne hc.symm
    · rw [if_neg h1]; simp only [List.map_cons, List.map_nil, List.mem_singleton]
      exact fun hc => hc.elim ih h1
def joinM (m : List (V × V)) (u v : V) : List (V × V) := if repM m u = repM m v then m else m ++ [(repM m u, repM m v)]
theorem join_ok {m : List (V × V)} (h : OkM m) (u v : V) : OkM (joinM m u v) := by
  unfold joinM
  by_cases h1 : repM m u = repM m v
  · rw [if_pos h1]; exact h
  · rw [if_neg h1]; exact OkM.snoc h (rep_not h u) (rep_not h v) h1
theorem join_rep (m : List (V × V)) (u v x : V) : repM (joinM m u v) x = if repM m x = repM m u then repM m v else repM m x := by
  unfold joinM
  by_cases h1 : repM m u = repM m v
  · rw [if_pos h1]
    by_cases h2 : repM m x = repM m u
    · rw [if_pos h2, h2, h1]
    · rw [if_neg h2]
  · rw [if_neg h1, rep_snoc]
def joinsM (m : List (V × V)) (es : List (V × V)) : List (V × V) := es.foldl (fun m e => joinM m e.1 e.2) m
theorem joins_ok {es : List (V × V)} : ∀ {m : List (V × V)}, OkM m → OkM (joinsM m es) := by
  induction es with
  | nil => intro m h; exact h
  | cons e es ih => intro m h; exact ih (join_ok h e.1 e.2)
inductive Conn (es : List (V × V)) : V → V → Prop
  | refl (u : V) : Conn es u u
  | step {u v w : V} (h : Conn es u v) (e : (v, w) ∈ es ∨ (w, v) ∈ es) : Conn es u w
theorem Conn.trans {es : List (V × V)} {u v w : V} (h : Conn es u v) (k : Conn es v w) : Conn es u w := by
  induction k with
  | refl => exact h
  | step _ e ih => exact ih.step e
theorem Conn.symm {es : List (V × V)} {u v : V} (h : Conn es u v) : Conn es v u := by
  induction h with
  | refl => exact .refl _
  | step _ e ih => exact (Conn.step (.refl _) e.symm).trans ih
theorem Conn.mono {es es' : List (V × V)} (hs : ∀ e ∈ es, e ∈ es') {u v : V} (h : Conn es u v) : Conn es' u v := by
  induction h with
  | refl => exact .refl _
  | step _ e ih => exact ih.step (e.elim (fun e => .inl (hs _ e)) fun e => .inr (hs _ e))
theorem joins_snoc (es : List (V × V)) (e : V × V) : joinsM [] (es ++ [e]) = joinM (joinsM [] es) e.1 e.2 := by unfold joinsM; rw [List.foldl_append]; rfl
theorem take_ind {α : Type} {P : List α → Prop} (h0 : P []) (h1 : ∀ l a, P l → P (l ++ [a])) : ∀ l, P l := fun l => by
  have : P l.reverse.reverse := by
    induction l.reverse with
    | nil => exact h0
    | cons a l ih => rw [List.reverse_cons]; exact h1 _ _ ih
  rwa [List.reverse_reverse] at this
theorem conn_iff (es : List (V × V)) : ∀ u v, repM (joinsM [] es) u = repM (joinsM [] es) v ↔ Conn es u v := by
  refine take_ind (P := fun es => ∀ u v, repM (joinsM [] es) u = repM (joinsM [] es) v ↔ Conn es u v) ?_ ?_ es
  · intro u v
    constructor
    · intro h
      have : u = v := h
      subst this
      exact .refl _
    · intro h
      induction h with
      | refl => rfl
      | step _ e _ => simp at e
  · intro es e ih u v
    have hm : ∀ x ∈ es, x ∈ es ++ [e] := fun x hx => List.mem_append_left _ hx
    have h1 : Conn (es ++ [e]) e.1 e.2 := .step (.refl _) (.inl (by simp))
    rw [joins_snoc, join_rep, join_rep]
    constructor
    · intro h
      by_cases a1 : repM (joinsM [] es) u = repM (joinsM [] es) e.1
      · have c1 := ((ih _ _).1 a1).mono hm
        by_cases a2 : repM (joinsM [] es) v = repM (joinsM [] es) e.1
        · exact c1.trans (((ih _ _).1 a2).mono hm).symm
        · rw [if_pos a1, if_neg a2] at h
          exact (c1.trans h1).trans (((ih _ _).1 h).mono hm)
      · by_cases a2 : repM (joinsM [] es) v = repM (joinsM [] es) e.1
        · rw [if_neg a1, if_pos a2] at h
          exact ((((ih _ _).1 h).mono hm).trans h1.symm).trans (((ih _ _).1 a2).mono hm).symm
        · rw [if_neg a1, if_neg a2] at h
          exact ((ih _ _).1 h).mono hm
    · intro h
      induction h with
      | refl => rfl
      | step _ k ihk =>
        rename_i x y _
        rw [ihk]
        have hk : ∀ x y : V, (x, y) ∈ es ++ [e] → (if repM (joinsM [] es) x = repM (joinsM [] es) e.1 then repM (joinsM [] es) e.2 else repM (joinsM [] es) x) = if repM (joinsM [] es) y = repM (joinsM [] es) e.1 then repM (joinsM [] es) e.2 else repM (joinsM [] es) y := by
          intro x y hxy
          rcases List.mem_append.1 hxy with hxy | hxy
          · have := (ih x y).2 (.step (.refl _) (.inl hxy))
            rw [this]
          · have he : (x, y) = e := by simpa using hxy
            subst he
            rw [if_pos rfl]
            by_cases h3 : repM (joinsM [] es) y = repM (joinsM [] es) x
            · rw [if_pos h3]
            · rw [if_neg h3]
        rcases k with k | k
        · exact hk _ _ k
        · exact (hk _ _ k).symm
end
end Go.Proofs.YtjbepoofigokjaaGreat
namespace Go.Proofs.YtjbepoofigokjaaGreat
set_option linter.unusedSectionVars false
section
variable {V : Type} [DecidableEq V]
def posG : List V → V → Nat
  | [], _ => 0
  | y :: l, x => if y = x then 0 else posG l x + 1
theorem posG_self {a : List V} {x : V} : posG (x :: a) x = 0 := by unfold posG; rw [if_pos rfl]
theorem posG_ne {a : List V} {x y : V} (h : y ≠ x) : posG (y :: a) x = posG a x + 1 := by conv => lhs; unfold posG
                                                                                          rw [if_neg h]
theorem posG_lt : ∀ {a : List V} {x : V}, x ∈ a → posG a x < a.length
  | y :: a, x, h => by
    by_cases h1 : y = x
    · subst h1; rw [posG_self]; simp
    · rw [posG_ne h1, List.length_cons]
      have := posG_lt ((List.mem_cons.1 h).resolve_left fun e => h1 e.symm)
      omega
theorem posG_app : ∀ {a b : List V} {x : V}, posG (a ++ b) x = if x ∈ a then posG a x else posG b x + a.length
  | [], b, x => by simp
  | y :: a, b, x => by
    rw [List.cons_append]
    by_cases h1 : y = x
    · subst h1; rw [posG_self, posG_self, if_pos (by simp)]
    · rw [posG_ne h1, posG_ne h1, posG_app]
      by_cases h2 : x ∈ a
      · rw [if_pos h2, if_pos (List.mem_cons_of_mem _ h2)]
      · rw [if_neg h2, if_neg, List.length_cons]
        · omega
        · rw [List.mem_cons, not_or]; exact ⟨fun e => h1 e.symm, h2⟩
def distG (rs : List V) : List V := rs.foldl (fun seen r => if r ∈ seen then seen else seen ++ [r]) []
theorem dist_app (rs : List V) (r : V) : distG (rs ++ [r]) = if r ∈ distG rs then distG rs else distG rs ++ [r] := by unfold distG; rw [List.foldl_append]; rfl
theorem dist_snoc {rs : List V} {k : Nat} (h : k < rs.length) : distG (rs.take (k + 1)) = if rs[k] ∈ distG (rs.take k) then distG (rs.take k) else distG (rs.take k) ++ [rs[k]] := by rw [take_snoc' h, dist_app]
theorem dist_inv (rs : List V) : (distG rs).Nodup ∧ ∀ x, x ∈ distG rs ↔ x ∈ rs := by
  refine take_ind (P := fun rs => (distG rs).Nodup ∧ ∀ x, x ∈ distG rs ↔ x ∈ rs) ⟨by simp [distG], fun x => by simp [distG]⟩ (fun l a ⟨h1, h2⟩ => ?_) rs
  rw [dist_app]
  by_cases h : a ∈ distG l
  · rw [if_pos h]
    refine ⟨h1, fun x => ?_⟩
    rw [h2, List.mem_append, List.mem_singleton]
    constructor
    · exact .inl
    · rintro (h3 | rfl)
      · exact h3
      · exact (h2 _).1 h
  · rw [if_neg h]
    refine ⟨?_, fun x => ?_⟩
    · rw [List.nodup_append]
      refine ⟨h1, by simp, fun y hy c hc => ?_⟩
      rw [List.mem_singleton.1 hc]
      rintro rfl
      exact h hy
    · rw [List.mem_append, List.mem_append, h2]
theorem dist_len (rs : List V) : (distG rs).length ≤ rs.length := List.Nodup.length_le_of_subset (dist_inv rs).1 fun x hx => ((dist_inv rs).2 x).1 hx
theorem dist_pre (rs es : List V) : ∃ t, distG (rs ++ es) = distG rs ++ t := by
  refine take_ind (P := fun es => ∃ t, distG (rs ++ es) = distG rs ++ t) ⟨[], by simp⟩ (fun l a ⟨t, ht⟩ => ?_) es
  rw [← List.append_assoc, dist_app, ht]
  by_cases h : a ∈ distG rs ++ t
  · rw [if_pos h]; exact ⟨t, rfl⟩
  · rw [if_neg h]; exact ⟨t ++ [a], by simp⟩
theorem idx_app_mem {a b : List V} {x : V} (h : x ∈ a) : posG (a ++ b) x = posG a x := by rw [posG_app, if_pos h]
theorem idx_none {a : List V} {x : V} (h : x ∉ a) : posG a x = a.length := by
  induction a with
  | nil => rfl
  | cons y a ih =>
    rw [List.mem_cons, not_or] at h
    rw [posG_ne (Ne.symm h.1), ih h.2]; rfl
theorem idx_at {rs : List V} {k : Nat} (h : k < rs.length) : posG (distG rs) rs[k] = posG (distG (rs.take k)) rs[k] := by
  obtain ⟨t, ht⟩ := dist_pre (rs.take (k + 1)) (rs.drop (k + 1))
  rw [List.take_append_drop] at ht
  have hm : rs[k] ∈ distG (rs.take (k + 1)) := ((dist_inv _).2 _).2 (by rw [take_snoc' h]; exact List.mem_append_right _ (by simp))
  rw [ht, idx_app_mem hm, dist_snoc h]
  by_cases h1 : rs[k] ∈ distG (rs.take k)
  · rw [if_pos h1]
  · rw [if_neg h1, idx_none h1, posG_app, if_neg h1, posG_self]; simp
theorem idx_lt {a : List V} {x : V} (hx : x ∈ a) : posG a x < a.length := posG_lt hx
def numG : Int → List V → List (V × Int)
  | _, [] => []
  | n, r :: rs => (r, n) :: numG (n + 1) rs
theorem numG_keys : ∀ (rs : List V) (n : Int), (numG n rs).map (·.1) = rs
  | [], _ => rfl
  | r :: rs, n => by show r :: (numG (n + 1) rs).map (·.1) = _; rw [numG_keys rs]
theorem numG_len (rs : List V) (n : Int) : (numG n rs).length = rs.length := by
  have := congrArg List.length (numG_keys rs n)
  rwa [List.length_map] at this
theorem numG_app : ∀ (a b : List V) (n : Int), numG n (a ++ b) = numG n a ++ numG (n + a.length) b
  | [], b, n => by simp [numG]
  | r :: a, b, n => by
    show (r, n) :: numG (n + 1) (a ++ b) = (r, n) :: (numG (n + 1) a ++ _)
    rw [numG_app a b]
    have : n + 1 + (a.length : Int) = n + ((r :: a).length : Int) := by rw [List.length_cons]; omega
    rw [this]
theorem numG_look : ∀ (rs : List V) (n : Int) (x : V), lookM (numG n rs) x = if x ∈ rs then some (n + (posG rs x : Int)) else none
  | [], n, x => by simp [numG, lookM]
  | r :: rs, n, x => by
    by_cases h : r = x
    · subst h
      rw [if_pos (by simp), posG_self]
      unfold lookM numG
      rw [List.find?_cons_of_pos (by simp)]
      simp
    · have h1 := numG_look rs (n + 1) x
      have e : lookM (numG n (r :: rs)) x = lookM (numG (n + 1) rs) x := by
        unfold lookM
        conv => lhs; unfold numG
        rw [List.find?_cons_of_neg (by simpa using h)]
      rw [e, h1, posG_ne h]
      by_cases h2 : x ∈ rs
      · rw [if_pos h2, if_pos (List.mem_cons_of_mem _ h2)]
        congr 1
        omega
      · rw [if_neg h2, if_neg]
        rw [List.mem_cons, not_or]
        exact ⟨fun h3 => h h3.symm, h2⟩
end
def hdV (s : List Vx) : Vx := s.headD (0, 0)
def edgS (s : List Vx) : List (Vx × Vx) := (s.drop 1).map fun v => (hdV s, v)
def edgC (l : Cx) : List (Vx × Vx) := l.flatMap edgS
def ufC (l : Cx) : List (Vx × Vx) := joinsM [] (edgC l)
def rootC (l : Cx) (s : List Vx) : Vx := repM (ufC l) (hdV s)
def rootsC (l : Cx) : List Vx := l.map (rootC l)
def numC (l : Cx) (s : List Vx) : Nat := posG (distG (rootsC l)) (rootC l s)
def compC (l : Cx) : List Int := l.map fun s => (numC l s : Int)
theorem edgC_snoc {l : Cx} {i : Nat} (h : i < l.length) : edgC (l.take (i + 1)) = edgC (l.take i) ++ edgS l[i] := by unfold edgC; rw [take_snoc' h, List.flatMap_append]; simp
theorem edgC_mem {l : Cx} {e : Vx × Vx} : e ∈ edgC l ↔ ∃ f ∈ l, e.1 = hdV f ∧ e.2 ∈ f.drop 1 := by
  unfold edgC edgS
  rw [List.mem_flatMap]
  constructor
  · rintro ⟨f, hf, he⟩
    obtain ⟨v, hv, rfl⟩ := List.mem_map.1 he
    exact ⟨f, hf, rfl, hv⟩
  · rintro ⟨f, hf, h1, h2⟩
    exact ⟨f, hf, List.mem_map.2 ⟨e.2, h2, by rw [← h1]⟩⟩
theorem hd_mem {s : List Vx} (h : 0 < s.length) : hdV s ∈ s := by
  cases s with
  | nil => simp at h
  | cons v s => simp [hdV]
theorem mem_hd {s : List Vx} {v : Vx} (h : v ∈ s) : v = hdV s ∨ v ∈ s.drop 1 := by
  cases s with
  | nil => simp at h
  | cons u s => simpa [hdV] using h
theorem rep_in {l : Cx} {s : List Vx} (hs : s ∈ l) {v : Vx} (hv : v ∈ s) : repM (ufC l) v = rootC l s := by
  rcases mem_hd hv with rfl | h
  · rfl
  · exact ((conn_iff (edgC l) _ _).2 (.step (.refl _) (.inl (edgC_mem.2 ⟨s, hs, rfl, h⟩)))).symm
theorem root_shared {l : Cx} {s t : List Vx} (hs : s ∈ l) (ht : t ∈ l) {v : Vx} (h1 : v ∈ s) (h2 : v ∈ t) : rootC l s = rootC l t := by rw [← rep_in hs h1, rep_in ht h2]
theorem root_mem {l : Cx} {s : List Vx} (hs : s ∈ l) : rootC l s ∈ distG (rootsC l) := ((dist_inv _).2 _).2 (List.mem_map_of_mem hs)
theorem num_at {l : Cx} {i : Nat} (h : i < l.length) : numC l l[i] = posG (distG ((rootsC l).take i)) (rootC l l[i]) := by
  have := idx_at (rs := rootsC l) (k := i) (by simpa [rootsC] using h)
  simpa [rootsC, numC] using this
end Go.Proofs.YtjbepoofigokjaaGreat
