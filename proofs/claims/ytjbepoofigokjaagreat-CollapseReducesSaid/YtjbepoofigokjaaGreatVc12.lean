/-
  Part 12 of the texts that the claims of this seat lean on: walks of the program's functions by contracts over symbolic frames, and plain laws of what they compute. No condition.
-/
import Derived.ControlIn
import Derived.OrdersIn
import Derived.TacticsIn
import Derived.Test.YtjbepoofigokjaaGreatVc9
import Derived.Test.YtjbepoofigokjaaGreatVc11
set_option linter.unusedVariables false
set_option linter.unusedSimpArgs false
set_option linter.unusedSectionVars false
namespace Go.Proofs.YtjbepoofigokjaaGreat
open Go.RowKit
set_option linter.unusedSimpArgs false

set_option maxHeartbeats 2000000
set_option maxRecDepth 100000
theorem filt_snoc {p : List Vx → Bool} {l : Cx} {k : Nat} (h : k < l.length) : (l.take (k + 1)).filter p = (l.take k).filter p ++ (if p l[k] = true then [l[k]] else []) := by
  rw [take_snoc' h, List.filter_append]
  by_cases hp : p l[k] = true
  · rw [if_pos hp, List.filter_cons_of_pos hp]; rfl
  · rw [if_neg hp, List.filter_cons_of_neg hp]; rfl
theorem maximal_c (l : Cx) (hl : l.length ≤ 1000000) : Fn Tryz.prog 97 [dS Simps l] (dS Cpx (maxC l)) := by
  (refine Fn.introC1 tyC Tryz.func97 rfl rfl ?_; simp only [Tryz.ntmps97, List.length_cons, List.length_nil, Nat.reduceAdd, Nat.reduceSub, List.replicate_succ, List.replicate_zero, List.cons_append, List.nil_append])
  (repeat' (first | (apply WL.opN; exact yF; dsimp only [setD, z0, z1]) | refine WL.nil ?_ | refine WC.seqK fun Kx hK => ?_ | (refine hK _ _ ?_; clear hK) | refine WC.region ?_ | (apply WL.alloc; (first | exact tzV | exact tzC); (first | exact shape_X rfl | exact shape_XV | exact shape_C0 rfl); (intro _; dsimp only [setD, z0, z1])) | refine WC.block ?_))
  rename Nat => b0
  (refine WC.loopU (X := Nat × Cx) (fun x => [(4, dI (x.1 : Int)), (3, dS Simps x.2), (5, dA), (6, dA), (7, dA), (8, dA), (9, dA), (10, dA), (11, dA), (12, dA), (13, dA), (14, dA), (15, dA), (16, dA), (17, dA), (18, dA), (19, dA), (20, dA), (21, dA), (22, dA), (23, dA), (24, dA), (25, dA), (26, dA), (27, dA), (28, dA), (29, dA), (30, dA), (31, dA)]) (fun x => [hCell b0 24 1 true (dX (.agg #[.slice none 0 0]))]) (fun x => l.length - x.1) (fun x => x.1 ≤ l.length ∧ x.2 = ((l.take x.1).filter (topC l)).foldl putC []) (0, []) ?start ?frame0 ?objs0 ?round)
  case start => simp
  case frame0 => ((try dsimp only [upds, z0, z1]); repeat (first | exact LeF.nil | refine LeF.co (k := ?_)))
  case objs0 => rfl
  case round =>
    rintro ⟨k, o⟩ ⟨h1, h2⟩
    simp only at h1 h2
    have hol : o.length ≤ l.length := by
      have h5 := foldPut_len ((l.take k).filter (topC l)) []
      have h3 := List.length_filter_le (topC l) (l.take k)
      rw [List.length_take] at h3
      simp only [List.length_nil] at h5
      rw [h2]
      omega
    dsimp only [upds, z0, z1]
    ((repeat' (first | (apply WL.opN; exact yF; dsimp only [setD, z0, z1]) | refine WL.nil ?_ | refine WC.seqK fun Kx hK => ?_ | (refine hK _ _ ?_; clear hK) | (refine Kont.skip ?_; clear hK) | refine WC.region ?_ | (apply WL.storeF; (exact tD); rfl; (exact oD); (exact hD); dsimp only [setD, z0, z1]) | (apply WL.opG; (focus (first | exact wN | (apply SYG.yes; (exact wY); ((first | (apply SY.call (covered_c _ _) Tryz.call131; (exact aD)) | (apply SY.call (putC_c _ _ (Nat.le_trans hol (Nat.le_trans hl (by decide)))) Tryz.call132; (exact aD)) | exact yMove | exact yLss | exact yGtr | exact yNot | exact yAdd | exact yLoad | exact yLen | exact yIndexaddr | exact yBuild | exact yPick | fail); all_goals infer_instance)))); dsimp only [setD, z0, z1]) | ((first | refine WL.caseP rfl rfl rfl (fun h => ?_) (fun h => ?_) | refine WL.caseN rfl rfl rfl (fun h => ?_) (fun h => ?_) | refine WL.caseB rfl rfl rfl (fun h => ?_) (fun h => ?_)) <;> (first | (exfalso; first | omega | contradiction) | (dsimp only [z0, z1]))) | (apply WC.condF; (exact oD); (with_reducible rfl)) | (apply WC.condD; (exact oD); all_goals (intro h; try exact xD)) | (apply WC.condNB; (exact oD); all_goals (intro h; try exact xD)) | refine WC.skip ?_ | refine WC.ret ?_ | refine WC.exit ?_ | refine WC.block ?_ | refine ThenD.n ?_)); all_goals (first | ((repeat clear hK); (repeat clear Kx))))
    · (refine ⟨(k + 1, putC o l[k]), ?_, by first | omega | (simp only; omega), rfl, ?_⟩; rotate_left; ((try dsimp only [upds, z0, z1]); repeat (first | exact LeF.nil | refine LeF.co (k := ?_))); (try dsimp only))
      refine ⟨by omega, ?_⟩
      rw [filt_snoc (by omega), if_pos (by unfold topC; rw [h, decide_eq_true (by omega)]; rfl), List.foldl_append, ← h2]
      rfl
    · (refine ⟨(k + 1, o), ?_, by first | omega | (simp only; omega), rfl, ?_⟩; rotate_left; ((try dsimp only [upds, z0, z1]); repeat (first | exact LeF.nil | refine LeF.co (k := ?_))); (try dsimp only))
      refine ⟨by omega, ?_⟩
      rw [filt_snoc (by omega), if_neg (by unfold topC; rw [h]; simp), List.append_nil, h2]
    · (refine ⟨(k + 1, o), ?_, by first | omega | (simp only; omega), rfl, ?_⟩; rotate_left; ((try dsimp only [upds, z0, z1]); repeat (first | exact LeF.nil | refine LeF.co (k := ?_))); (try dsimp only))
      refine ⟨by omega, ?_⟩
      rw [filt_snoc (by omega), if_neg (by unfold topC; rw [decide_eq_false (by omega)]; simp), List.append_nil, h2]
    · rw [List.take_of_length_le (by omega)] at h2
      subst h2
      (refine ⟨trivial, _, rfl, ?_⟩; exact fD)
end Go.Proofs.YtjbepoofigokjaaGreat
namespace Go.Proofs.YtjbepoofigokjaaGreat
open Go.RowKit
set_option linter.unusedSimpArgs false

set_option maxHeartbeats 2000000
set_option maxRecDepth 100000
def twI (l : Cx) (i k : Nat) : Bool := decide (i ≠ k) && insideV (l.getD i []) (l.getD k [])
theorem any_snoc {n : Nat} {p : Nat → Bool} : (List.range (n + 1)).any p = ((List.range n).any p || p n) := by rw [List.range_succ, List.any_append]; simp
theorem any_yes {n k : Nat} {p : Nat → Bool} (hk : k < n) (h : p k = true) : (List.range n).any p = true := List.any_eq_true.2 ⟨k, List.mem_range.2 hk, h⟩
theorem getD_at {l : Cx} {k : Nat} (h : k < l.length) : l.getD k [] = l[k] := by simp [List.getD, h]
theorem chk27_c (l : Cx) : Fn Tryz.prog 44 [dS Cpx l] (dI (chkC l)) := by
  (refine Fn.intro1 Tryz.func44 rfl rfl ?_; simp only [Tryz.ntmps44, List.length_cons, List.length_nil, Nat.reduceAdd, Nat.reduceSub, List.replicate_succ, List.replicate_zero, List.cons_append, List.nil_append])
  ((repeat' (first | ((first | apply WL.opN | apply WD.opN); exact yF; dsimp only [setD, z0, z1]) | refine WL.nil ?_ | refine WC.seqK fun Kx hK => ?_ | (refine hK _ _ ?_; clear hK) | refine WC.region ?_ | ((first | apply WL.opG | apply WD.op); (focus (first | exact wN | (apply SYG.yes; (exact wY); ((first | exact yGtr | exact yLen | exact yFieldaddr | exact yBox | fail); all_goals infer_instance)))); dsimp only [setD, z0, z1]) | (apply WC.condD; (exact oD); all_goals (intro h; try exact xD)) | refine WC.skip ?_ | refine WC.ret ?_ | refine WC.block ?_ | refine ThenD.r ?_)); all_goals (first | refine WC.id ?_ | ((repeat clear hK); (repeat clear Kx))))
  · (refine ⟨trivial, _, rfl, ?_⟩; refine FinD.i ?_)
    unfold chkC; rw [if_pos (by omega)]
  · have hs : chkC l = if chkO none l ≠ 0 then chkO none l else if twiceC l = true then 7 else 0 := by unfold chkC; rw [if_neg (by omega)]
    (refine WC.loopU (X := Nat) (fun k => [(4, dI (k : Int)), (2, dA), (5, dA), (13, dA), (14, dA), (15, dA), (16, dA), (17, dA), (18, dA), (19, dA), (20, dA), (21, dA), (22, dA), (23, dA), (24, dA), (25, dA), (26, dA), (27, dA), (28, dA), (29, dA), (30, dA), (31, dA), (32, dA), (33, dA), (34, dA), (35, dA), (36, dA), (37, dA), (38, dA), (39, dA), (40, dA), (41, dA)]) (fun k => []) (fun k => l.length - k) (fun k => k ≤ l.length ∧ chkO none l = chkO (l.take k).getLast? (l.drop k)) 0 ?start ?frame0 ?objs0 ?round)
    case start => exact ⟨Nat.zero_le _, rfl⟩
    case frame0 => ((try dsimp only [upds, z0, z1]); repeat (first | exact LeF.nil | refine LeF.co (k := ?_)))
    case objs0 => rfl
    case round =>
      rintro k ⟨h3, h4⟩
      dsimp only [upds, z0, z1]
      ((repeat' (first | ((first | apply WL.opN | apply WD.opN); exact yF; dsimp only [setD, z0, z1]) | refine WL.nil ?_ | refine WD.nil ?_ | refine WC.seqK fun Kx hK => ?_ | (refine hK _ _ ?_; clear hK) | (refine Kont.skip ?_; clear hK) | refine WC.region ?_ | (apply WC.draw; kernel_rfl; kernel_rfl) | ((first | apply WL.opG | apply WD.op); (focus (first | exact wN | (apply SYG.yes; (exact wY); ((first | (apply SY.call (cmpL_c _ _) Tryz.call81; (exact aD)) | (apply SY.call (chk_c _) Tryz.call50; (exact aD)) | (apply SY.ixJ elSi (OpD.t rfl) (OpD.t rfl) (k - 1); omega; omega) | exact yMove | exact yLss | exact yGtr | exact yGeq | exact yNeq | exact yAdd | exact ySub | exact yLoad | exact yLen | exact yIndexaddr | exact yPick | fail); all_goals infer_instance)))); dsimp only [setD, z0, z1]) | ((first | refine WL.caseP rfl rfl rfl (fun h => ?_) (fun h => ?_) | refine WL.caseN rfl rfl rfl (fun h => ?_) (fun h => ?_) | refine WL.caseB rfl rfl rfl (fun h => ?_) (fun h => ?_) | refine WD.caseP rfl rfl rfl (fun h => ?_) (fun h => ?_) | refine WD.caseN rfl rfl rfl (fun h => ?_) (fun h => ?_) | refine WD.caseB rfl rfl rfl (fun h => ?_) (fun h => ?_)) <;> (first | (exfalso; first | omega | contradiction) | (dsimp only [z0, z1]))) | (apply WC.condF; (exact oD); (with_reducible rfl)) | (apply WC.condD; (exact oD); all_goals (intro h; try exact xD)) | (apply WC.condN; (exact oD); all_goals (intro h; try exact xD)) | refine WC.skip ?_ | refine WC.ret ?_ | refine WC.exit ?_ | refine WC.block ?_ | refine ThenD.n ?_ | refine ThenD.r ?_ | refine InBlockD.r ?_)); all_goals (first | refine WC.id ?_ | ((repeat clear hK); (repeat clear Kx))))
      all_goals try (rw [chkO_drop l k (by omega)] at h4)
      · (refine ⟨trivial, _, rfl, ?_⟩; refine FinD.i ?_)
        rw [hs, h4, if_pos h, if_pos h]
      · (refine ⟨trivial, _, rfl, ?_⟩; refine FinD.i ?_)
        have h5 : ¬ chkV l[k] ≠ 0 := by omega
        rw [if_neg h5, lastC_take _ _ (by omega) (by omega), if_pos (by simpa using h)] at h4
        rw [hs, h4]; rfl
      · (refine ⟨k + 1, ?_, by first | omega | (simp only; omega), rfl, ?_⟩; rotate_left; ((try dsimp only [upds, z0, z1]); repeat (first | exact LeF.nil | refine LeF.co (k := ?_))); (try dsimp only))
        refine ⟨by omega, ?_⟩
        have h5 : ¬ chkV l[k] ≠ 0 := by omega
        rw [h4, if_neg h5, lastC_take _ _ (by omega) (by omega), if_neg (by simpa using h)]
      · (refine ⟨k + 1, ?_, by first | omega | (simp only; omega), rfl, ?_⟩; rotate_left; ((try dsimp only [upds, z0, z1]); repeat (first | exact LeF.nil | refine LeF.co (k := ?_))); (try dsimp only))
        refine ⟨by omega, ?_⟩
        have h5 : ¬ chkV l[k] ≠ 0 := by omega
        have h0 : (l.take k).getLast? = none := by
          have : k = 0 := by omega
          rw [this]; rfl
        rw [h4, if_neg h5, h0]
        rfl
      · rw [List.drop_of_length_le (by omega)] at h4
        have h4' : chkO none l = 0 := h4
        have hs' : chkC l = if twiceC l = true then 7 else 0 := by rw [hs, if_neg (by omega)]
        clear hs h4
        (refine WC.loopU (X := Nat) (fun i => [(6, dI (i : Int)), (2, dA), (7, dA), (42, dA), (43, dA), (44, dA), (45, dA), (46, dA), (47, dA), (48, dA), (49, dA), (50, dA), (51, dA), (52, dA), (53, dA), (54, dA), (55, dA), (56, dA), (57, dA), (58, dA), (59, dA), (60, dA), (61, dA), (62, dA), (63, dA), (64, dA), (65, dA), (66, dA), (67, dA)]) (fun i => []) (fun i => l.length - i) (fun i => i ≤ l.length ∧ (List.range i).any (fun i => (List.range l.length).any (twI l i)) = false) 0 ?start ?frame0 ?objs0 ?round)
        case start => exact ⟨Nat.zero_le _, rfl⟩
        case frame0 => ((try dsimp only [upds, z0, z1]); repeat (first | exact LeF.nil | refine LeF.co (k := ?_)))
        case objs0 => rfl
        case round =>
          rintro i ⟨h5, h6⟩
          dsimp only [upds, z0, z1]
          ((repeat' (first | ((first | apply WL.opN | apply WD.opN); exact yF; dsimp only [setD, z0, z1]) | refine WL.nil ?_ | refine WC.seqK fun Kx hK => ?_ | (refine hK _ _ ?_; clear hK) | (refine Kont.skip ?_; clear hK) | refine WC.region ?_ | ((first | apply WL.opG | apply WD.op); (focus (first | exact wN | (apply SYG.yes; (exact wY); ((first | exact yLss | exact yLen | fail); all_goals infer_instance)))); dsimp only [setD, z0, z1]) | (apply WC.condD; (exact oD); all_goals (intro h; try exact xD)) | refine WC.skip ?_ | refine WC.ret ?_ | refine WC.exit ?_ | refine WC.block ?_)); all_goals (first | refine WC.id ?_ | ((repeat clear hK); (repeat clear Kx))))
          · (refine WC.loopU (X := Nat) (fun j => [(7, dI (j : Int)), (2, dA), (48, dA), (49, dA), (50, dA), (51, dA), (52, dA), (53, dA), (54, dA), (55, dA), (56, dA), (57, dA), (58, dA), (59, dA), (60, dA), (61, dA), (62, dA), (63, dA), (64, dA), (65, dA), (66, dA), (67, dA)]) (fun j => []) (fun j => l.length - j) (fun j => j ≤ l.length ∧ (List.range j).any (twI l i) = false) 0 ?start ?frame0 ?objs0 ?round)
            case start => exact ⟨Nat.zero_le _, rfl⟩
            case frame0 => ((try dsimp only [upds, z0, z1]); repeat (first | exact LeF.nil | refine LeF.co (k := ?_)))
            case objs0 => rfl
            case round =>
              rintro j ⟨h7, h8⟩
              dsimp only [upds, z0, z1]
              ((repeat' (first | ((first | apply WL.opN | apply WD.opN); exact yF; dsimp only [setD, z0, z1]) | refine WL.nil ?_ | refine WD.nil ?_ | refine WC.seqK fun Kx hK => ?_ | (refine hK _ _ ?_; clear hK) | (refine Kont.skip ?_; clear hK) | refine WC.region ?_ | (apply WC.draw; kernel_rfl; kernel_rfl) | ((first | apply WL.opG | apply WD.op); (focus (first | exact wN | (apply SYG.yes; (exact wY); ((first | (apply SY.call (inside_c _ _) Tryz.call82; (exact aD)) | exact yMove | exact yLss | exact yNeq | exact yAdd | exact yLoad | exact yLen | exact yIndexaddr | exact yPick | fail); all_goals infer_instance)))); dsimp only [setD, z0, z1]) | ((first | refine WL.caseP rfl rfl rfl (fun h => ?_) (fun h => ?_) | refine WL.caseN rfl rfl rfl (fun h => ?_) (fun h => ?_) | refine WL.caseB rfl rfl rfl (fun h => ?_) (fun h => ?_) | refine WD.caseP rfl rfl rfl (fun h => ?_) (fun h => ?_) | refine WD.caseN rfl rfl rfl (fun h => ?_) (fun h => ?_) | refine WD.caseB rfl rfl rfl (fun h => ?_) (fun h => ?_)) <;> (first | (exfalso; first | omega | contradiction) | (dsimp only [z0, z1]))) | (apply WC.condF; (exact oD); (with_reducible rfl)) | (apply WC.condD; (exact oD); all_goals (intro h; try exact xD)) | (apply WC.cond; (exact oD); all_goals (intro h; try exact xD)) | refine WC.skip ?_ | refine WC.ret ?_ | refine WC.exit ?_ | refine WC.block ?_ | refine ThenD.n ?_ | refine ThenD.r ?_ | refine InBlockD.r ?_)); all_goals (first | ((repeat clear hK); (repeat clear Kx))))
              · (refine ⟨trivial, _, rfl, ?_⟩; refine FinD.i ?_)
                have e : twI l i j = true := by
                  unfold twI
                  rw [getD_at (by omega), getD_at (by omega), h, decide_eq_true (by omega)]; rfl
                rw [hs', if_pos (show twiceC l = true from any_yes (k := i) (by omega) (any_yes (k := j) (by omega) e))]
              · (refine ⟨j + 1, ?_, by first | omega | (simp only; omega), rfl, ?_⟩; rotate_left; ((try dsimp only [upds, z0, z1]); repeat (first | exact LeF.nil | refine LeF.co (k := ?_))); (try dsimp only))
                refine ⟨by omega, ?_⟩
                rw [any_snoc, h8]
                unfold twI
                rw [getD_at (by omega), getD_at (by omega), h, Bool.and_false]; rfl
              · (refine ⟨j + 1, ?_, by first | omega | (simp only; omega), rfl, ?_⟩; rotate_left; ((try dsimp only [upds, z0, z1]); repeat (first | exact LeF.nil | refine LeF.co (k := ?_))); (try dsimp only))
                refine ⟨by omega, ?_⟩
                rw [any_snoc, h8]
                unfold twI
                rw [decide_eq_false (by omega)]; rfl
              · rw [show j = l.length by omega] at h8
                (refine ⟨i + 1, ?_, by first | omega | (simp only; omega), rfl, ?_⟩; rotate_left; ((try dsimp only [upds, z0, z1]); repeat (first | exact LeF.nil | refine LeF.co (k := ?_))); (try dsimp only))
                refine ⟨by omega, ?_⟩
                rw [any_snoc, h6, h8]; rfl
          · rw [show i = l.length by omega] at h6
            (refine ⟨trivial, _, rfl, ?_⟩; refine FinD.i ?_)
            have e : twiceC l = false := h6
            rw [hs', e]; rfl
theorem chkO_all : ∀ (l : Cx) (p : Option (List Vx)), chkO p l = 0 → ∀ s ∈ l, chkV s = 0
  | [], _, _, s, hs => by simp at hs
  | x :: l, p, h, s, hs => by
    unfold chkO at h
    by_cases h1 : chkV x ≠ 0
    · rw [if_pos h1] at h; exact absurd h h1
    · rw [if_neg h1] at h
      rcases List.mem_cons.1 hs with rfl | hs
      · omega
      · refine chkO_all l (some x) ?_ s hs
        revert h
        split
        · intro h; omega
        · exact id
theorem chkC_good {l : Cx} (h : chkC l = 0) : l.length ≤ 4096 ∧ chkO none l = 0 ∧ twiceC l = false ∧ ∀ s ∈ l, chkV s = 0 := by
  unfold chkC at h
  by_cases h1 : 4096 < l.length
  · rw [if_pos h1] at h; omega
  rw [if_neg h1] at h
  by_cases h2 : chkO none l ≠ 0
  · rw [if_pos h2] at h; exact absurd h h2
  rw [if_neg h2] at h
  refine ⟨by omega, by omega, ?_, chkO_all l none (by omega)⟩
  cases h3 : twiceC l with
  | false => rfl
  | true => rw [h3, if_pos rfl] at h; omega
end Go.Proofs.YtjbepoofigokjaaGreat
namespace Go.Proofs.YtjbepoofigokjaaGreat.I
open Go.RowKit
theorem oper_wide {P : Program} {o : Oper} {a : Act} {w : World} {K : Act → World → Prop} {Q : Exit → Act → World → Prop} (h : o.wp P a w K Q) : o.wpIn Fence.wide 0 P a w K Q := by
  refine ⟨fun _ _ => trivial, ?_⟩
  show o.uponIn Fence.wide 0 P a K Q ((execOp a.eval o).run P w)
  unfold Oper.wp at h
  revert h
  generalize (execOp a.eval o).run P w = r
  intro h
  unfold Oper.upon at h
  unfold Oper.uponIn
  split at h
  · exact h
  · exact h
  · exact h
  · exact ⟨fun h => by simp [Fence.wide] at h, callsIn_wide.2 h⟩
  · exact ⟨fun h => by simp [Fence.wide] at h, fun c cs _ => let ⟨v, w2, r, s⟩ := h c cs; ⟨v, w2, r, stepsIn_wide.2 s⟩⟩
  · exact h
  · exact h.elim
theorem wpListIn_plainW {P : Program} {ops : Array Oper} {Q : Exit → Act → World → Prop} {rest : List Oper} {o : Oper} {a : Act} {w : World} (hg : o.guard = none)
    (h : ∀ K : Act → World → Prop, (∀ a w, wpListIn Fence.wide 0 P ops Q rest a w → K a w) → o.wp P a w K Q) : wpListIn Fence.wide 0 P ops Q (o :: rest) a w :=
  wpListIn_plain hg fun K hK => oper_wide (h K hK)
end Go.Proofs.YtjbepoofigokjaaGreat.I
