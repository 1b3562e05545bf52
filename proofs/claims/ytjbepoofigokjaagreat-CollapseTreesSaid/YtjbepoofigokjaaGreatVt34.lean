/-
  Part 34 of the texts that the claims of this seat lean on: walks of the program's functions by contracts over symbolic frames, and plain laws of what they compute. No condition.
-/
import Derived.Test.YtjbepoofigokjaaGreatVt21
import Derived.Test.YtjbepoofigokjaaGreatVt26
import Derived.Test.YtjbepoofigokjaaGreatVt33
set_option linter.unusedVariables false
set_option linter.unusedSimpArgs false
set_option linter.unusedSectionVars false
namespace Go.Proofs.YtjbepoofigokjaaGreat
open Go.RowKit
set_option linter.unusedSimpArgs false

set_option maxHeartbeats 2000000
set_option maxRecDepth 100000
theorem step_in {l : Cx} (G : GoodX l) {x : Cl} (hx : x ∈ pairsC l) (hw : wholeN l 8 ≤ 4098) : stepK l x = (leftC l x, 0) := by
  have hp := pair_ok G hx
  unfold stepK
  rw [if_neg (by rw [goodX_iff.2 G]; omega), if_neg (by rw [hp.chk1]; omega), if_neg (by rw [hp.chk2]; omega), if_neg (by simpa using hx), if_neg (by have := left_few G hp hw; omega)]
theorem step_out {l : Cx} (G : GoodX l) {x : Cl} (hx : x ∉ pairsC l) : (stepK l x).2 ≠ 0 := by
  unfold stepK
  rw [if_neg (by rw [goodX_iff.2 G]; omega)]
  split
  · assumption
  · split
    · assumption
    · first | decide | (rw [if_pos hx]; decide)
set_option maxHeartbeats 16000000 in
theorem verify32_p (l : Cx) (m : List Cl) (d : Cx) (hw : chkC l = 0 → wholeN l 8 ≤ 4098) : Fn Tryz.prog 27 [dS Cpx l, dS Cols m, dS Cpx d] (dI (verK l m d)) := by
  (refine Fn.intro1 Tryz.func27 rfl rfl ?_; simp only [Tryz.ntmps27, List.length_cons, List.length_nil, Nat.reduceAdd, Nat.reduceSub, List.replicate_succ, List.replicate_zero, List.cons_append, List.nil_append])
  have c0 := check_p l
  have c1 := check_p d
  by_cases h0 : chkC l = 0
  · by_cases h1 : chkC d = 0
    · by_cases h2 : 4096 < m.length
      · have e : verK l m d = 5 := by unfold verK; rw [if_neg (by omega), if_neg (by omega), if_pos h2]
        rw [e]
        ((repeat' (first | (apply WL.opN; exact yF; dsimp only [setD, z0, z1]) | refine WL.nil ?_ | refine WC.seqK fun Kx hK => ?_ | (refine hK _ _ ?_; clear hK) | refine WC.region ?_ | (apply WL.opN; (focus ((first | (apply SY.call (c0) Tryz.call35; exact ArgsD.cons (OpD.t rfl) (ArgsD.nil)) | (apply SY.call (c1) Tryz.call35; exact ArgsD.cons (OpD.t rfl) (ArgsD.nil)) | ((first | apply SY.move | apply SY.assign | apply SY.lss | apply SY.gtr | apply SY.neq | apply SY.not) <;> (exact oD)) | (apply SY.len; (exact oD); (exact nD); (exact uD)) | (apply SY.box; (exact oD); (exact hD)) | fail); all_goals infer_instance)); dsimp only [setD, z0, z1]) | (apply WC.condD; (exact oD); all_goals (intro h; try exact xD)) | (apply WC.condN; (exact oD); all_goals (intro h; try exact xD)) | refine WC.skip ?_ | refine WC.ret ?_ | refine ThenD.r ?_)); all_goals (first | ((repeat clear hK); (repeat clear Kx))))
        all_goals first | (exfalso; omega) | (refine ⟨trivial, _, rfl, ?_⟩; exact fD)
      · have e : verK l m d = if stepsV l m = some d then 0 else 18 := by unfold verK; rw [if_neg (by omega), if_neg (by omega), if_neg h2]
        rw [e]
        (repeat' (first | (apply WL.opN; exact yF; dsimp only [setD, z0, z1]) | refine WL.nil ?_ | refine WC.seqK fun Kx hK => ?_ | (refine hK _ _ ?_; clear hK) | refine WC.region ?_ |  (refine WL.boxC (x := Operand.tmp 0) (OpD.t rfl) shape_C fun b3 => ?_; dsimp only [setD, z0, z1]) | (apply WL.opN; (focus ((first | (apply SY.call (c0) Tryz.call35; exact ArgsD.cons (OpD.t rfl) (ArgsD.nil)) | (apply SY.call (c1) Tryz.call35; exact ArgsD.cons (OpD.t rfl) (ArgsD.nil)) | (apply SY.loadH tyC; exact OpD.t rfl; exact .head _) | ((first | apply SY.move | apply SY.assign | apply SY.lss | apply SY.gtr | apply SY.neq | apply SY.not) <;> (exact oD)) | (apply SY.len; (exact oD); (exact nD); (exact uD)) | (apply SY.box; (exact oD); (exact hD)) | fail); all_goals infer_instance)); dsimp only [setD, z0, z1]) | (apply WC.condD; (exact oD); all_goals (intro h; try exact xD)) | (apply WC.condN; (exact oD); all_goals (intro h; try exact xD)) | refine WC.skip ?_ | refine WC.block ?_))
        all_goals first | (exfalso; omega) | skip
        (refine WC.loopU (X := Nat × Cx) (fun x => [(28, dI (x.1 : Int)), (6, dA), (10, dA), (11, dA), (12, dA), (29, dA), (30, dA), (31, dA), (32, dA), (33, dA), (34, dA), (35, dA), (36, dA), (37, dA), (38, dA), (39, dA), (40, dA), (41, dA)]) (fun x => [hCell b3 24 1 true (dS Cpx x.2)]) (fun x => m.length - x.1) (fun x => x.1 ≤ m.length ∧ GoodX x.2 ∧ wholeN x.2 8 ≤ 4098 ∧ stepsV l m = stepsV x.2 (m.drop x.1)) (0, l) ?start ?frame0 ?objs0 ?round)
        case start => exact ⟨Nat.zero_le _, goodX_iff.1 h0, hw h0, rfl⟩
        case frame0 => ((try dsimp only [upds, z0, z1]); repeat (first | exact LeF.nil | refine LeF.co (k := ?_)))
        case objs0 => rfl
        case round =>
          rintro ⟨k, cur⟩ ⟨k1, k2, k3, k4⟩
          simp only at k1 k2 k3 k4
          dsimp only [upds, z0, z1]
          by_cases hk : k < m.length
          · have c3 := step32_p cur m[k] fun _ => k3
            rw [List.drop_eq_getElem_cons hk] at k4
            by_cases hx : m[k] ∈ pairsC cur
            · rw [step_in k2 hx k3] at c3
              have hp := pair_ok k2 hx
              have q1 := left_two k2 hp
              have q2 := left_good k2 hp (by omega)
              have k5 : stepsV l m = stepsV (leftC cur m[k]) (m.drop (k + 1)) := by rw [k4]; exact if_pos hx
              generalize leftC cur m[k] = L at *
              ((repeat' (first | (apply WL.opN; exact yF; dsimp only [setD, z0, z1]) | refine WL.nil ?_ | refine WC.seqK fun Kx hK => ?_ | (refine hK _ _ ?_; clear hK) | refine WC.region ?_ |  (apply WL.alloc tzCo; exact shape_Z2; (intro b10; dsimp only [setD, z0, z1])) |  (refine WL.storeF tyCo rfl (OpD.t rfl) shape_P ?_; dsimp only [setD, z0, z1]) |  (refine WL.storeK (t := 3) tyC (OpD.t rfl) (OpD.t rfl) shape_C ?_; dsimp only [setD, z0, z1]) | (apply WL.alloc; (first | exact tzV | exact tzC); (first | exact shape_X rfl | exact shape_XV | exact shape_C0 rfl); (intro _; dsimp only [setD, z0, z1])) | (apply WL.storeF; (exact tD); rfl; (exact oD); (exact hD); dsimp only [setD, z0, z1]) | (apply WL.opN; (focus ((first | (apply SY.call (c3) Tryz.call17; (exact aD)) | (apply SY.loadH tyC; exact OpD.t rfl; exact .head _) | ((first | apply SY.move | apply SY.assign | apply SY.lss | apply SY.gtr | apply SY.neq | apply SY.not) <;> (exact oD)) | ((first | apply SY.add) <;> first | exact oD | omega) | (apply SY.ixK; (exact eD); (exact oD); (exact oD); exact kD) | (apply SY.extract; (exact oD); rfl) | fail); all_goals infer_instance)); dsimp only [setD, z0, z1]) | (apply WC.condD; (exact oD); all_goals (intro h; try exact xD)) | (apply WC.condN; (exact oD); all_goals (intro h; try exact xD)) | refine WC.skip ?_ | refine WC.block ?_ | refine ThenD.n ?_)); all_goals (first | ((repeat clear hK); (repeat clear Kx))))
              all_goals first | (exfalso; omega) | skip
              (refine ⟨(k + 1, L), ?_, by first | omega | (simp only; omega), rfl, ?_⟩; rotate_left; ((try dsimp only [upds, z0, z1]); repeat (first | exact LeF.nil | refine LeF.co (k := ?_))); (try dsimp only))
              exact ⟨by show k + 1 ≤ _; omega, q2, by show wholeN L 8 ≤ _; omega, k5⟩
            · have hs := step_out k2 hx
              generalize stepK cur m[k] = S at *
              have k5 : stepsV l m = none := by rw [k4]; exact if_neg hx
              rw [k5]
              ((repeat' (first | (apply WL.opN; exact yF; dsimp only [setD, z0, z1]) | refine WL.nil ?_ | refine WC.seqK fun Kx hK => ?_ | (refine hK _ _ ?_; clear hK) | refine WC.region ?_ |  (apply WL.alloc tzCo; exact shape_Z2; (intro b10; dsimp only [setD, z0, z1])) |  (refine WL.storeF tyCo rfl (OpD.t rfl) shape_P ?_; dsimp only [setD, z0, z1]) | (apply WL.alloc; (first | exact tzV | exact tzC); (first | exact shape_X rfl | exact shape_XV | exact shape_C0 rfl); (intro _; dsimp only [setD, z0, z1])) | (apply WL.storeF; (exact tD); rfl; (exact oD); (exact hD); dsimp only [setD, z0, z1]) | (apply WL.opN; (focus ((first | (apply SY.call (c3) Tryz.call17; (exact aD)) | (apply SY.loadH tyC; exact OpD.t rfl; exact .head _) | ((first | apply SY.move | apply SY.assign | apply SY.lss | apply SY.gtr | apply SY.neq | apply SY.not) <;> (exact oD)) | (apply SY.ixK; (exact eD); (exact oD); (exact oD); exact kD) | (apply SY.extract; (exact oD); rfl) | fail); all_goals infer_instance)); dsimp only [setD, z0, z1]) | (apply WC.condD; (exact oD); all_goals (intro h; try exact xD)) | (apply WC.condN; (exact oD); all_goals (intro h; try exact xD)) | refine WC.skip ?_ | refine WC.ret ?_ | refine WC.block ?_ | refine ThenD.r ?_ | refine InBlockD.r ?_)); all_goals (first | ((repeat clear hK); (repeat clear Kx))))
              all_goals first | (exfalso; omega) | ((refine ⟨trivial, _, rfl, ?_⟩; exact fD))
          · rw [List.drop_eq_nil_of_le (by omega)] at k4
            have c5 := same32_p cur d
            by_cases he : cur = d
            · rw [decide_eq_true he] at c5
              ((repeat' (first | (apply WL.opN; exact yF; dsimp only [setD, z0, z1]) | refine WL.nil ?_ | refine WC.seqK fun Kx hK => ?_ | (refine hK _ _ ?_; clear hK) | (refine Kont.skip ?_; clear hK) | refine WC.region ?_ | (apply WL.opN; (focus ((first | (apply SY.call (c5) Tryz.call64; (exact aD)) | (apply SY.loadH tyC; exact OpD.t rfl; exact .head _) | ((first | apply SY.move | apply SY.assign | apply SY.lss | apply SY.gtr | apply SY.neq | apply SY.not) <;> (exact oD)) | fail); all_goals infer_instance)); dsimp only [setD, z0, z1]) | (apply WC.condD; (exact oD); all_goals (intro h; try exact xD)) | (apply WC.condNB; (exact oD); all_goals (intro h; try exact xD)) | refine WC.skip ?_ | refine WC.ret ?_ | refine WC.exit ?_)); all_goals (first | ((repeat clear hK); (repeat clear Kx))))
              all_goals first | (exfalso; omega) | skip
              (refine ⟨trivial, _, rfl, ?_⟩; refine FinD.i ?_)
              rw [k4, show stepsV cur [] = some cur from rfl, if_pos (by rw [he])]
            · rw [decide_eq_false he] at c5
              ((repeat' (first | (apply WL.opN; exact yF; dsimp only [setD, z0, z1]) | refine WL.nil ?_ | refine WC.seqK fun Kx hK => ?_ | (refine hK _ _ ?_; clear hK) | (refine Kont.skip ?_; clear hK) | refine WC.region ?_ | (apply WL.opN; (focus ((first | (apply SY.call (c5) Tryz.call64; (exact aD)) | (apply SY.loadH tyC; exact OpD.t rfl; exact .head _) | ((first | apply SY.move | apply SY.assign | apply SY.lss | apply SY.gtr | apply SY.neq | apply SY.not) <;> (exact oD)) | fail); all_goals infer_instance)); dsimp only [setD, z0, z1]) | (apply WC.condD; (exact oD); all_goals (intro h; try exact xD)) | (apply WC.condNB; (exact oD); all_goals (intro h; try exact xD)) | refine WC.ret ?_ | refine WC.exit ?_ | refine ThenD.r ?_)); all_goals (first | ((repeat clear hK); (repeat clear Kx))))
              all_goals first | (exfalso; omega) | skip
              (refine ⟨trivial, _, rfl, ?_⟩; refine FinD.i ?_)
              rw [k4, show stepsV cur [] = some cur from rfl, if_neg (fun q => he (Option.some.inj q))]
    · have e : verK l m d = chkC d := by unfold verK; rw [if_neg (by omega), if_pos h1]
      rw [e]
      ((repeat' (first | (apply WL.opN; exact yF; dsimp only [setD, z0, z1]) | refine WL.nil ?_ | refine WC.seqK fun Kx hK => ?_ | (refine hK _ _ ?_; clear hK) | refine WC.region ?_ | (apply WL.opN; (focus ((first | (apply SY.call (c0) Tryz.call35; exact ArgsD.cons (OpD.t rfl) (ArgsD.nil)) | (apply SY.call (c1) Tryz.call35; exact ArgsD.cons (OpD.t rfl) (ArgsD.nil)) | ((first | apply SY.move | apply SY.assign | apply SY.lss | apply SY.gtr | apply SY.neq | apply SY.not) <;> (exact oD)) | (apply SY.box; (exact oD); (exact hD)) | fail); all_goals infer_instance)); dsimp only [setD, z0, z1]) | (apply WC.condN; (exact oD); all_goals (intro h; try exact xD)) | refine WC.skip ?_ | refine WC.ret ?_ | refine ThenD.r ?_)); all_goals (first | ((repeat clear hK); (repeat clear Kx))))
      all_goals first | (exfalso; omega) | (refine ⟨trivial, _, rfl, ?_⟩; exact fD)
  · have e : verK l m d = chkC l := by unfold verK; rw [if_pos h0]
    rw [e]
    ((repeat' (first | (apply WL.opN; exact yF; dsimp only [setD, z0, z1]) | refine WL.nil ?_ | refine WC.seqK fun Kx hK => ?_ | (refine hK _ _ ?_; clear hK) | refine WC.region ?_ | (apply WL.opN; (focus ((first | (apply SY.call (c0) Tryz.call35; exact ArgsD.cons (OpD.t rfl) (ArgsD.nil)) | ((first | apply SY.move | apply SY.assign | apply SY.lss | apply SY.gtr | apply SY.neq | apply SY.not) <;> (exact oD)) | (apply SY.box; (exact oD); (exact hD)) | fail); all_goals infer_instance)); dsimp only [setD, z0, z1]) | (apply WC.condN; (exact oD); all_goals (intro h; try exact xD)) | refine WC.ret ?_ | refine ThenD.r ?_)); all_goals (first | ((repeat clear hK); (repeat clear Kx))))
    all_goals first | (exfalso; omega) | (refine ⟨trivial, _, rfl, ?_⟩; exact fD)
def maxZ (l : List Int) : Int := (l.drop 1).foldl max (l.headD 0)
theorem maxI_p (l : List Int) (hl : 0 < l.length) : Fn Tryz.prog 59 [dS Ints l] (dI (maxZ l)) := by
  (refine Fn.intro1 Tryz.func59 rfl rfl ?_; simp only [Tryz.ntmps59, List.length_cons, List.length_nil, Nat.reduceAdd, Nat.reduceSub, List.replicate_succ, List.replicate_zero, List.cons_append, List.nil_append])
  have h0 : l.headD 0 = l[0] := by cases l with | nil => simp at hl | cons x l => rfl
  (repeat' (first | (apply WL.opN; exact yF; dsimp only [setD, z0, z1]) | refine WL.nil ?_ | refine WC.seqK fun Kx hK => ?_ | (refine hK _ _ ?_; clear hK) | refine WC.region ?_ | (apply WL.opN; (focus ((first | ((first | apply SY.move | apply SY.assign | apply SY.lss) <;> (exact oD)) | (apply SY.len; (exact oD); (exact nD); (exact uD)) | (apply SY.ix; (exact eD); (exact oD); (exact oD); exact kD) | fail); all_goals infer_instance)); dsimp only [setD, z0, z1]) | (apply WC.condD; (exact oD); all_goals (intro h; try exact xD)) | refine WC.skip ?_ | refine WC.block ?_))
  all_goals first | (exfalso; omega) | skip
  (first | refine WC.know (t := 0) rfl le_K fun hl0 => ?_ | refine WC.know (t := 0) rfl le_A fun hl0 => ?_ | refine WC.know (t := 0) rfl le_C fun hl0 => ?_); simp only [maxLen] at hl0
  (refine WC.loopU (X := Nat × Int) (fun k => [(4, dI ((k.1 + 1 : Nat) : Int)), (3, dI k.2), (12, dA), (13, dA), (14, dA), (15, dA), (16, dA), (17, dA), (18, dA), (19, dA), (20, dA), (21, dA), (22, dA), (23, dA)]) (fun k => []) (fun k => l.length - k.1) (fun k => k.1 + 1 ≤ l.length ∧ maxZ l = (l.drop (k.1 + 1)).foldl max k.2) (0, l[0]) ?start ?frame0 ?objs0 ?round)
  case start => exact ⟨by omega, by show maxZ l = _; unfold maxZ; rw [h0]⟩
  case frame0 => ((try dsimp only [upds, z0, z1]); repeat (first | exact LeF.nil | refine LeF.co (k := ?_)))
  case objs0 => rfl
  case round =>
    rintro ⟨k, n⟩ ⟨q1, q2⟩
    simp only at q1 q2
    dsimp only [upds, z0, z1]
    by_cases hk : k + 1 < l.length
    · rw [List.drop_eq_getElem_cons hk, List.foldl_cons] at q2
      ((repeat' (first | (apply WL.opN; exact yF; dsimp only [setD, z0, z1]) | refine WL.nil ?_ | refine WC.seqK fun Kx hK => ?_ | (refine hK _ _ ?_; clear hK) | refine WC.region ?_ | (apply WL.opN; (focus ((first | (apply SY.maxI; exact OpD.t rfl; exact OpD.t rfl) | ((first | apply SY.move | apply SY.assign | apply SY.lss) <;> (exact oD)) | ((first | apply SY.add) <;> first | exact oD | omega) | (apply SY.len; (exact oD); (exact nD); (exact uD)) | (apply SY.ix; (exact eD); (exact oD); (exact oD); exact kD) | fail); all_goals infer_instance)); dsimp only [setD, z0, z1]) | (apply WC.condD; (exact oD); all_goals (intro h; try exact xD)) | refine WC.skip ?_ | refine WC.block ?_ | refine ThenD.n ?_)); all_goals (first | ((repeat clear hK); (repeat clear Kx))))
      all_goals first | (exfalso; omega) | skip
      (refine ⟨(k + 1, max n l[k + 1]), ?_, by first | omega | (simp only; omega), rfl, ?_⟩; rotate_left; ((try dsimp only [upds, z0, z1]); repeat (first | exact LeF.nil | refine LeF.co (k := ?_))); (try dsimp only))
      exact ⟨by show k + 1 + 1 ≤ _; omega, q2⟩
    · rw [List.drop_eq_nil_of_le (by omega)] at q2
      ((repeat' (first | (apply WL.opN; exact yF; dsimp only [setD, z0, z1]) | refine WL.nil ?_ | refine WC.seqK fun Kx hK => ?_ | (refine hK _ _ ?_; clear hK) | (refine Kont.skip ?_; clear hK) | refine WC.region ?_ | (apply WL.opN; (focus ((first | ((first | apply SY.move | apply SY.assign | apply SY.lss) <;> (exact oD)) | (apply SY.len; (exact oD); (exact nD); (exact uD)) | fail); all_goals infer_instance)); dsimp only [setD, z0, z1]) | (apply WC.condD; (exact oD); all_goals (intro h; try exact xD)) | refine WC.ret ?_ | refine WC.exit ?_)); all_goals (first | ((repeat clear hK); (repeat clear Kx))))
      all_goals first | (exfalso; omega) | skip
      (refine ⟨trivial, _, rfl, ?_⟩; refine FinD.i ?_)
      exact q2.symm
theorem fold_max : ∀ (l : List Int) (a : Int), 0 < l.foldl max a ↔ 0 < a ∨ ∃ n ∈ l, 0 < n
  | [], a => by simp
  | x :: l, a => by
    rw [List.foldl_cons, fold_max l]
    constructor
    · rintro (h | ⟨n, hn, h⟩)
      · by_cases ha : 0 < a
        · exact .inl ha
        · exact .inr ⟨x, List.mem_cons_self .., by omega⟩
      · exact .inr ⟨n, List.mem_cons_of_mem _ hn, h⟩
    · rintro (h | ⟨n, hn, h⟩)
      · exact .inl (by omega)
      · rcases List.mem_cons.1 hn with rfl | hn
        · exact .inl (by omega)
        · exact .inr ⟨n, hn, h⟩
theorem maxZ_pos {l : List Int} (hl : 0 < l.length) : 0 < maxZ l ↔ ∃ n ∈ l, 0 < n := by
  cases l with
  | nil => simp at hl
  | cons x l =>
    show 0 < l.foldl max x ↔ _
    rw [fold_max]
    constructor
    · rintro (h | ⟨n, hn, h⟩)
      · exact ⟨x, List.mem_cons_self .., h⟩
      · exact ⟨n, List.mem_cons_of_mem _ hn, h⟩
    · rintro ⟨n, hn, h⟩
      rcases List.mem_cons.1 hn with rfl | hn
      · exact .inl h
      · exact .inr ⟨n, hn, h⟩
theorem connC_is (l : Cx) : connC l = decide (0 < l.length ∧ ¬ 0 < maxZ (compC l)) := by
  have hc : (compC l).length = l.length := List.length_map ..
  apply bool_iff
  unfold connC
  rw [Bool.and_eq_true, List.all_eq_true, decide_eq_true_eq, decide_eq_true_eq, hc]
  by_cases h0 : 0 < l.length
  · rw [maxZ_pos (by omega)]
    constructor
    · rintro ⟨h1, h2⟩
      exact ⟨h2, fun ⟨n, hn, h⟩ => absurd h (of_decide_eq_true (h1 n hn))⟩
    · rintro ⟨h1, h2⟩
      exact ⟨fun n hn => decide_eq_true fun h => h2 ⟨n, hn, h⟩, h1⟩
  · exact ⟨fun h => absurd h.2 h0, fun h => absurd h.1 h0⟩
set_option maxHeartbeats 16000000 in
theorem coll32_p (l : Cx) : Fn Tryz.prog 22 [dS Cpx l] (dT [dI (collK l).1, dS Cols (collK l).2.1, dI (collK l).2.2]) := by
  (refine Fn.intro3 Tryz.func22 rfl rfl ?_; simp only [Tryz.ntmps22, List.length_cons, List.length_nil, Nat.reduceAdd, Nat.reduceSub, List.replicate_succ, List.replicate_zero, List.cons_append, List.nil_append])
  have c0 := reduce32_p l
  by_cases h0 : (redK l).2.2 = 0
  · have hc := redK_good h0
    have c1 := components27_p l
    rw [show compP l = (compC l, 0) from if_neg (by omega)] at c1
    have c2 := euler27_p l
    have hcn := connC_is l
    have hcl : (compC l).length = l.length := List.length_map ..
    have c3 : 0 < l.length → Fn Tryz.prog 59 [dS Ints (compC l)] (dI (maxZ (compC l))) := fun h => maxI_p _ (by omega)
    by_cases h12 : (redK l).1.length = 1 ∧ ((redK l).1.getD 0 []).length = 1
    · obtain ⟨h1, h2⟩ := h12
      have h01 : 0 < (redK l).1.length := by omega
      have hg : (redK l).1.getD 0 [] = (redK l).1[0] := by rw [List.getD_eq_getElem?_getD, List.getElem?_eq_getElem h01]; rfl
      have e : collK l = (1, (redK l).2.1, 0) := by unfold collK; rw [if_neg (by omega), if_pos ⟨h1, h2⟩]
      rw [hg] at h2
      rw [e]
      generalize redK l = R at *
      ((repeat' (first | (apply WL.opN; exact yF; dsimp only [setD, z0, z1]) | refine WL.nil ?_ | refine WC.seqK fun Kx hK => ?_ | (refine hK _ _ ?_; clear hK) | refine WC.region ?_ | (apply WL.alloc; (first | exact tzV | exact tzC); (first | exact shape_X rfl | exact shape_XV | exact shape_C0 rfl); (intro _; dsimp only [setD, z0, z1])) | (apply WL.storeF; (exact tD); rfl; (exact oD); (exact hD); dsimp only [setD, z0, z1]) | (apply WL.opG; (focus (first | exact wN | (apply SYG.yes; (exact wY); ((first | (apply SY.call (c0) Tryz.call20; (exact aD)) | (refine SY.ix (R := Verts) (_gR := inferInstance) (k := 0) elSi (OpD.t rfl) OpD.i h01) | ((first | apply SY.move | apply SY.assign | apply SY.gtr | apply SY.eql | apply SY.neq) <;> (exact oD)) | (apply SY.load; (exact tD); (exact oD)) | (apply SY.len; (exact oD); (exact nD); (exact uD)) | (apply SY.fldC cpxT; exact OpD.t rfl) | (apply SY.pickT; (exact oD); (with_reducible rfl); (exact oD)) | (apply SY.extract; (exact oD); rfl) | (apply SY.box; (exact oD); (exact hD)) | fail); all_goals infer_instance)))); dsimp only [setD, z0, z1]) | ((first | refine WL.caseP rfl rfl rfl (fun h => ?_) (fun h => ?_) | refine WL.caseN rfl rfl rfl (fun h => ?_) (fun h => ?_) | refine WL.caseB rfl rfl rfl (fun h => ?_) (fun h => ?_)) <;> (first | (exfalso; first | omega | contradiction) | (dsimp only [z0, z1]))) | (apply WC.condD; (exact oD); all_goals (intro h; try exact xD)) | (apply WC.condN; (exact oD); all_goals (intro h; try exact xD)) | refine WC.skip ?_ | refine WC.ret ?_ | refine ThenD.r ?_)); all_goals (first | ((repeat clear hK); (repeat clear Kx))))
      all_goals first | (exfalso; omega) | (refine ⟨trivial, ⟨_, rfl, ?_⟩, ⟨_, rfl, ?_⟩, _, rfl, ?_⟩ <;> exact fD)
    · have e : collK l = if connC l = false ∨ (eulC l).1 ≠ 1 then (2, [], 0) else (0, [], 0) := by unfold collK; rw [if_neg (by omega), if_neg h12]
      rw [e, hcn]
      clear e hcn
      generalize compC l = CN at *
      generalize (eulC l).1 = EU at *
      generalize (eulC l).2 = EV at *
      by_cases hl : 0 < l.length
      · replace c3 := c3 hl
        by_cases hm : 0 < maxZ CN
        · rw [if_pos (.inl (decide_eq_false fun q => q.2 hm))]
          generalize maxZ CN = MZ at *
          by_cases h1 : (redK l).1.length = 1
          · have h01 : 0 < (redK l).1.length := by omega
            have h2 : (redK l).1[0].length ≠ 1 := fun q => h12 ⟨h1, by rw [List.getD_eq_getElem?_getD, List.getElem?_eq_getElem h01]; exact q⟩
            generalize redK l = R at *
            ((repeat' (first | (apply WL.opN; exact yF; dsimp only [setD, z0, z1]) | refine WL.nil ?_ | refine WC.seqK fun Kx hK => ?_ | (refine hK _ _ ?_; clear hK) | refine WC.region ?_ | (apply WL.alloc; (first | exact tzV | exact tzC); (first | exact shape_X rfl | exact shape_XV | exact shape_C0 rfl); (intro _; dsimp only [setD, z0, z1])) | (apply WL.storeF; (exact tD); rfl; (exact oD); (exact hD); dsimp only [setD, z0, z1]) | (apply WL.opG; (focus (first | exact wN | (apply SYG.yes; (exact wY); ((first | (apply SY.call (c0) Tryz.call20; (exact aD)) | (apply SY.call (c1) Tryz.call57; (exact aD)) | (apply SY.call (c2) Tryz.call58; (exact aD)) | (apply SY.call (c3) Tryz.call59; (exact aD)) | (refine SY.ix (R := Verts) (_gR := inferInstance) (k := 0) elSi (OpD.t rfl) OpD.i h01) | ((first | apply SY.move | apply SY.assign | apply SY.gtr | apply SY.eql | apply SY.neq) <;> (exact oD)) | (apply SY.load; (exact tD); (exact oD)) | (apply SY.len; (exact oD); (exact nD); (exact uD)) | (apply SY.fldC cpxT; exact OpD.t rfl) | (apply SY.pickT; (exact oD); (with_reducible rfl); (exact oD)) | (apply SY.pickF; (exact oD); (with_reducible rfl); (exact oD)) | (apply SY.extract; (exact oD); rfl) | (apply SY.box; (exact oD); (exact hD)) | fail); all_goals infer_instance)))); dsimp only [setD, z0, z1]) | ((first | refine WL.caseP rfl rfl rfl (fun h => ?_) (fun h => ?_) | refine WL.caseN rfl rfl rfl (fun h => ?_) (fun h => ?_) | refine WL.caseB rfl rfl rfl (fun h => ?_) (fun h => ?_)) <;> (first | (exfalso; first | omega | contradiction) | (dsimp only [z0, z1]))) | (apply WC.condT; (exact oD); (with_reducible rfl)) | (apply WC.condD; (exact oD); all_goals (intro h; try exact xD)) | (apply WC.condN; (exact oD); all_goals (intro h; try exact xD)) | refine WC.skip ?_ | refine WC.ret ?_ | refine ThenD.r ?_)); all_goals (first | ((repeat clear hK); (repeat clear Kx))))
            all_goals first | (exfalso; omega) | (refine ⟨trivial, ⟨_, rfl, ?_⟩, ⟨_, rfl, ?_⟩, _, rfl, ?_⟩ <;> exact fD)
          · generalize redK l = R at *
            ((repeat' (first | (apply WL.opN; exact yF; dsimp only [setD, z0, z1]) | refine WL.nil ?_ | refine WC.seqK fun Kx hK => ?_ | (refine hK _ _ ?_; clear hK) | refine WC.region ?_ | (apply WL.alloc; (first | exact tzV | exact tzC); (first | exact shape_X rfl | exact shape_XV | exact shape_C0 rfl); (intro _; dsimp only [setD, z0, z1])) | (apply WL.storeF; (exact tD); rfl; (exact oD); (exact hD); dsimp only [setD, z0, z1]) | (apply WL.opG; (focus (first | exact wN | (apply SYG.yes; (exact wY); ((first | (apply SY.call (c0) Tryz.call20; (exact aD)) | (apply SY.call (c1) Tryz.call57; (exact aD)) | (apply SY.call (c2) Tryz.call58; (exact aD)) | (apply SY.call (c3) Tryz.call59; (exact aD)) | ((first | apply SY.move | apply SY.assign | apply SY.gtr | apply SY.eql | apply SY.neq) <;> (exact oD)) | (apply SY.len; (exact oD); (exact nD); (exact uD)) | (apply SY.fldC cpxT; exact OpD.t rfl) | (apply SY.pickT; (exact oD); (with_reducible rfl); (exact oD)) | (apply SY.pickF; (exact oD); (with_reducible rfl); (exact oD)) | (apply SY.extract; (exact oD); rfl) | (apply SY.box; (exact oD); (exact hD)) | fail); all_goals infer_instance)))); dsimp only [setD, z0, z1]) | ((first | refine WL.caseP rfl rfl rfl (fun h => ?_) (fun h => ?_) | refine WL.caseN rfl rfl rfl (fun h => ?_) (fun h => ?_) | refine WL.caseB rfl rfl rfl (fun h => ?_) (fun h => ?_)) <;> (first | (exfalso; first | omega | contradiction) | (dsimp only [z0, z1]))) | (apply WC.condT; (exact oD); (with_reducible rfl)) | (apply WC.condF; (exact oD); (with_reducible rfl)) | (apply WC.condN; (exact oD); all_goals (intro h; try exact xD)) | refine WC.skip ?_ | refine WC.ret ?_ | refine ThenD.r ?_)); all_goals (first | ((repeat clear hK); (repeat clear Kx))))
            all_goals first | (exfalso; omega) | (refine ⟨trivial, ⟨_, rfl, ?_⟩, ⟨_, rfl, ?_⟩, _, rfl, ?_⟩ <;> exact fD)
        · by_cases he : EU = 1
          · rw [if_neg (by rw [decide_eq_true (⟨hl, hm⟩ : 0 < l.length ∧ ¬ 0 < maxZ CN)]; simp [he])]
            generalize maxZ CN = MZ at *
            by_cases h1 : (redK l).1.length = 1
            · have h01 : 0 < (redK l).1.length := by omega
              have h2 : (redK l).1[0].length ≠ 1 := fun q => h12 ⟨h1, by rw [List.getD_eq_getElem?_getD, List.getElem?_eq_getElem h01]; exact q⟩
              generalize redK l = R at *
              ((repeat' (first | (apply WL.opN; exact yF; dsimp only [setD, z0, z1]) | refine WL.nil ?_ | refine WC.seqK fun Kx hK => ?_ | (refine hK _ _ ?_; clear hK) | refine WC.region ?_ | (apply WL.alloc; (first | exact tzV | exact tzC); (first | exact shape_X rfl | exact shape_XV | exact shape_C0 rfl); (intro _; dsimp only [setD, z0, z1])) | (apply WL.storeF; (exact tD); rfl; (exact oD); (exact hD); dsimp only [setD, z0, z1]) | (apply WL.opG; (focus (first | exact wN | (apply SYG.yes; (exact wY); ((first | (apply SY.call (c0) Tryz.call20; (exact aD)) | (apply SY.call (c1) Tryz.call57; (exact aD)) | (apply SY.call (c2) Tryz.call58; (exact aD)) | (apply SY.call (c3) Tryz.call59; (exact aD)) | (refine SY.ix (R := Verts) (_gR := inferInstance) (k := 0) elSi (OpD.t rfl) OpD.i h01) | ((first | apply SY.move | apply SY.assign | apply SY.gtr | apply SY.eql | apply SY.neq) <;> (exact oD)) | (apply SY.load; (exact tD); (exact oD)) | (apply SY.len; (exact oD); (exact nD); (exact uD)) | (apply SY.fldC cpxT; exact OpD.t rfl) | (apply SY.pickT; (exact oD); (with_reducible rfl); (exact oD)) | (apply SY.pickF; (exact oD); (with_reducible rfl); (exact oD)) | (apply SY.extract; (exact oD); rfl) | (apply SY.box; (exact oD); (exact hD)) | fail); all_goals infer_instance)))); dsimp only [setD, z0, z1]) | ((first | refine WL.caseP rfl rfl rfl (fun h => ?_) (fun h => ?_) | refine WL.caseN rfl rfl rfl (fun h => ?_) (fun h => ?_) | refine WL.caseB rfl rfl rfl (fun h => ?_) (fun h => ?_)) <;> (first | (exfalso; first | omega | contradiction) | (dsimp only [z0, z1]))) | (apply WC.condD; (exact oD); all_goals (intro h; try exact xD)) | (apply WC.condN; (exact oD); all_goals (intro h; try exact xD)) | refine WC.skip ?_ | refine WC.ret ?_)); all_goals (first | ((repeat clear hK); (repeat clear Kx))))
              all_goals first | (exfalso; omega) | (refine ⟨trivial, ⟨_, rfl, ?_⟩, ⟨_, rfl, ?_⟩, _, rfl, ?_⟩ <;> exact fD)
            · generalize redK l = R at *
              ((repeat' (first | (apply WL.opN; exact yF; dsimp only [setD, z0, z1]) | refine WL.nil ?_ | refine WC.seqK fun Kx hK => ?_ | (refine hK _ _ ?_; clear hK) | refine WC.region ?_ | (apply WL.alloc; (first | exact tzV | exact tzC); (first | exact shape_X rfl | exact shape_XV | exact shape_C0 rfl); (intro _; dsimp only [setD, z0, z1])) | (apply WL.storeF; (exact tD); rfl; (exact oD); (exact hD); dsimp only [setD, z0, z1]) | (apply WL.opG; (focus (first | exact wN | (apply SYG.yes; (exact wY); ((first | (apply SY.call (c0) Tryz.call20; (exact aD)) | (apply SY.call (c1) Tryz.call57; (exact aD)) | (apply SY.call (c2) Tryz.call58; (exact aD)) | (apply SY.call (c3) Tryz.call59; (exact aD)) | ((first | apply SY.move | apply SY.assign | apply SY.gtr | apply SY.eql | apply SY.neq) <;> (exact oD)) | (apply SY.len; (exact oD); (exact nD); (exact uD)) | (apply SY.fldC cpxT; exact OpD.t rfl) | (apply SY.pickF; (exact oD); (with_reducible rfl); (exact oD)) | (apply SY.extract; (exact oD); rfl) | (apply SY.box; (exact oD); (exact hD)) | fail); all_goals infer_instance)))); dsimp only [setD, z0, z1]) | ((first | refine WL.caseP rfl rfl rfl (fun h => ?_) (fun h => ?_) | refine WL.caseN rfl rfl rfl (fun h => ?_) (fun h => ?_) | refine WL.caseB rfl rfl rfl (fun h => ?_) (fun h => ?_)) <;> (first | (exfalso; first | omega | contradiction) | (dsimp only [z0, z1]))) | (apply WC.condF; (exact oD); (with_reducible rfl)) | (apply WC.condN; (exact oD); all_goals (intro h; try exact xD)) | refine WC.skip ?_ | refine WC.ret ?_)); all_goals (first | ((repeat clear hK); (repeat clear Kx))))
              all_goals first | (exfalso; omega) | (refine ⟨trivial, ⟨_, rfl, ?_⟩, ⟨_, rfl, ?_⟩, _, rfl, ?_⟩ <;> exact fD)
          · rw [if_pos (.inr he)]
            generalize maxZ CN = MZ at *
            by_cases h1 : (redK l).1.length = 1
            · have h01 : 0 < (redK l).1.length := by omega
              have h2 : (redK l).1[0].length ≠ 1 := fun q => h12 ⟨h1, by rw [List.getD_eq_getElem?_getD, List.getElem?_eq_getElem h01]; exact q⟩
              generalize redK l = R at *
              ((repeat' (first | (apply WL.opN; exact yF; dsimp only [setD, z0, z1]) | refine WL.nil ?_ | refine WC.seqK fun Kx hK => ?_ | (refine hK _ _ ?_; clear hK) | refine WC.region ?_ | (apply WL.alloc; (first | exact tzV | exact tzC); (first | exact shape_X rfl | exact shape_XV | exact shape_C0 rfl); (intro _; dsimp only [setD, z0, z1])) | (apply WL.storeF; (exact tD); rfl; (exact oD); (exact hD); dsimp only [setD, z0, z1]) | (apply WL.opG; (focus (first | exact wN | (apply SYG.yes; (exact wY); ((first | (apply SY.call (c0) Tryz.call20; (exact aD)) | (apply SY.call (c1) Tryz.call57; (exact aD)) | (apply SY.call (c2) Tryz.call58; (exact aD)) | (apply SY.call (c3) Tryz.call59; (exact aD)) | (refine SY.ix (R := Verts) (_gR := inferInstance) (k := 0) elSi (OpD.t rfl) OpD.i h01) | ((first | apply SY.move | apply SY.assign | apply SY.gtr | apply SY.eql | apply SY.neq) <;> (exact oD)) | (apply SY.load; (exact tD); (exact oD)) | (apply SY.len; (exact oD); (exact nD); (exact uD)) | (apply SY.fldC cpxT; exact OpD.t rfl) | (apply SY.pickT; (exact oD); (with_reducible rfl); (exact oD)) | (apply SY.pickF; (exact oD); (with_reducible rfl); (exact oD)) | (apply SY.extract; (exact oD); rfl) | (apply SY.box; (exact oD); (exact hD)) | fail); all_goals infer_instance)))); dsimp only [setD, z0, z1]) | ((first | refine WL.caseP rfl rfl rfl (fun h => ?_) (fun h => ?_) | refine WL.caseN rfl rfl rfl (fun h => ?_) (fun h => ?_) | refine WL.caseB rfl rfl rfl (fun h => ?_) (fun h => ?_)) <;> (first | (exfalso; first | omega | contradiction) | (dsimp only [z0, z1]))) | (apply WC.condD; (exact oD); all_goals (intro h; try exact xD)) | (apply WC.condN; (exact oD); all_goals (intro h; try exact xD)) | refine WC.skip ?_ | refine WC.ret ?_ | refine ThenD.r ?_)); all_goals (first | ((repeat clear hK); (repeat clear Kx))))
              all_goals first | (exfalso; omega) | (refine ⟨trivial, ⟨_, rfl, ?_⟩, ⟨_, rfl, ?_⟩, _, rfl, ?_⟩ <;> exact fD)
            · generalize redK l = R at *
              ((repeat' (first | (apply WL.opN; exact yF; dsimp only [setD, z0, z1]) | refine WL.nil ?_ | refine WC.seqK fun Kx hK => ?_ | (refine hK _ _ ?_; clear hK) | refine WC.region ?_ | (apply WL.alloc; (first | exact tzV | exact tzC); (first | exact shape_X rfl | exact shape_XV | exact shape_C0 rfl); (intro _; dsimp only [setD, z0, z1])) | (apply WL.storeF; (exact tD); rfl; (exact oD); (exact hD); dsimp only [setD, z0, z1]) | (apply WL.opG; (focus (first | exact wN | (apply SYG.yes; (exact wY); ((first | (apply SY.call (c0) Tryz.call20; (exact aD)) | (apply SY.call (c1) Tryz.call57; (exact aD)) | (apply SY.call (c2) Tryz.call58; (exact aD)) | (apply SY.call (c3) Tryz.call59; (exact aD)) | ((first | apply SY.move | apply SY.assign | apply SY.gtr | apply SY.eql | apply SY.neq) <;> (exact oD)) | (apply SY.len; (exact oD); (exact nD); (exact uD)) | (apply SY.fldC cpxT; exact OpD.t rfl) | (apply SY.pickF; (exact oD); (with_reducible rfl); (exact oD)) | (apply SY.extract; (exact oD); rfl) | (apply SY.box; (exact oD); (exact hD)) | fail); all_goals infer_instance)))); dsimp only [setD, z0, z1]) | ((first | refine WL.caseP rfl rfl rfl (fun h => ?_) (fun h => ?_) | refine WL.caseN rfl rfl rfl (fun h => ?_) (fun h => ?_) | refine WL.caseB rfl rfl rfl (fun h => ?_) (fun h => ?_)) <;> (first | (exfalso; first | omega | contradiction) | (dsimp only [z0, z1]))) | (apply WC.condF; (exact oD); (with_reducible rfl)) | (apply WC.condN; (exact oD); all_goals (intro h; try exact xD)) | refine WC.skip ?_ | refine WC.ret ?_ | refine ThenD.r ?_)); all_goals (first | ((repeat clear hK); (repeat clear Kx))))
              all_goals first | (exfalso; omega) | (refine ⟨trivial, ⟨_, rfl, ?_⟩, ⟨_, rfl, ?_⟩, _, rfl, ?_⟩ <;> exact fD)
      · rw [if_pos (.inl (decide_eq_false fun q => hl q.1))]
        clear c3
        by_cases h1 : (redK l).1.length = 1
        · have h01 : 0 < (redK l).1.length := by omega
          have h2 : (redK l).1[0].length ≠ 1 := fun q => h12 ⟨h1, by rw [List.getD_eq_getElem?_getD, List.getElem?_eq_getElem h01]; exact q⟩
          generalize redK l = R at *
          ((repeat' (first | (apply WL.opN; exact yF; dsimp only [setD, z0, z1]) | refine WL.nil ?_ | refine WC.seqK fun Kx hK => ?_ | (refine hK _ _ ?_; clear hK) | refine WC.region ?_ | (apply WL.alloc; (first | exact tzV | exact tzC); (first | exact shape_X rfl | exact shape_XV | exact shape_C0 rfl); (intro _; dsimp only [setD, z0, z1])) | (apply WL.storeF; (exact tD); rfl; (exact oD); (exact hD); dsimp only [setD, z0, z1]) | (apply WL.opG; (focus (first | exact wN | (apply SYG.yes; (exact wY); ((first | (apply SY.call (c0) Tryz.call20; (exact aD)) | (apply SY.call (c1) Tryz.call57; (exact aD)) | (apply SY.call (c2) Tryz.call58; (exact aD)) | (refine SY.ix (R := Verts) (_gR := inferInstance) (k := 0) elSi (OpD.t rfl) OpD.i h01) | ((first | apply SY.move | apply SY.assign | apply SY.gtr | apply SY.eql | apply SY.neq) <;> (exact oD)) | (apply SY.load; (exact tD); (exact oD)) | (apply SY.len; (exact oD); (exact nD); (exact uD)) | (apply SY.fldC cpxT; exact OpD.t rfl) | (apply SY.pickT; (exact oD); (with_reducible rfl); (exact oD)) | (apply SY.extract; (exact oD); rfl) | (apply SY.box; (exact oD); (exact hD)) | fail); all_goals infer_instance)))); dsimp only [setD, z0, z1]) | ((first | refine WL.caseP rfl rfl rfl (fun h => ?_) (fun h => ?_) | refine WL.caseN rfl rfl rfl (fun h => ?_) (fun h => ?_) | refine WL.caseB rfl rfl rfl (fun h => ?_) (fun h => ?_)) <;> (first | (exfalso; first | omega | contradiction) | (dsimp only [z0, z1]))) | (apply WC.condT; (exact oD); (with_reducible rfl)) | (apply WC.condD; (exact oD); all_goals (intro h; try exact xD)) | (apply WC.condN; (exact oD); all_goals (intro h; try exact xD)) | refine WC.skip ?_ | refine WC.ret ?_ | refine ThenD.r ?_)); all_goals (first | ((repeat clear hK); (repeat clear Kx))))
          all_goals first | (exfalso; omega) | (refine ⟨trivial, ⟨_, rfl, ?_⟩, ⟨_, rfl, ?_⟩, _, rfl, ?_⟩ <;> exact fD)
        · generalize redK l = R at *
          ((repeat' (first | (apply WL.opN; exact yF; dsimp only [setD, z0, z1]) | refine WL.nil ?_ | refine WC.seqK fun Kx hK => ?_ | (refine hK _ _ ?_; clear hK) | refine WC.region ?_ | (apply WL.alloc; (first | exact tzV | exact tzC); (first | exact shape_X rfl | exact shape_XV | exact shape_C0 rfl); (intro _; dsimp only [setD, z0, z1])) | (apply WL.storeF; (exact tD); rfl; (exact oD); (exact hD); dsimp only [setD, z0, z1]) | (apply WL.opG; (focus (first | exact wN | (apply SYG.yes; (exact wY); ((first | (apply SY.call (c0) Tryz.call20; (exact aD)) | (apply SY.call (c1) Tryz.call57; (exact aD)) | (apply SY.call (c2) Tryz.call58; (exact aD)) | ((first | apply SY.move | apply SY.assign | apply SY.gtr | apply SY.eql | apply SY.neq) <;> (exact oD)) | (apply SY.len; (exact oD); (exact nD); (exact uD)) | (apply SY.fldC cpxT; exact OpD.t rfl) | (apply SY.pickT; (exact oD); (with_reducible rfl); (exact oD)) | (apply SY.pickF; (exact oD); (with_reducible rfl); (exact oD)) | (apply SY.extract; (exact oD); rfl) | (apply SY.box; (exact oD); (exact hD)) | fail); all_goals infer_instance)))); dsimp only [setD, z0, z1]) | ((first | refine WL.caseP rfl rfl rfl (fun h => ?_) (fun h => ?_) | refine WL.caseN rfl rfl rfl (fun h => ?_) (fun h => ?_) | refine WL.caseB rfl rfl rfl (fun h => ?_) (fun h => ?_)) <;> (first | (exfalso; first | omega | contradiction) | (dsimp only [z0, z1]))) | (apply WC.condT; (exact oD); (with_reducible rfl)) | (apply WC.condF; (exact oD); (with_reducible rfl)) | (apply WC.condN; (exact oD); all_goals (intro h; try exact xD)) | refine WC.skip ?_ | refine WC.ret ?_ | refine ThenD.r ?_)); all_goals (first | ((repeat clear hK); (repeat clear Kx))))
          all_goals first | (exfalso; omega) | (refine ⟨trivial, ⟨_, rfl, ?_⟩, ⟨_, rfl, ?_⟩, _, rfl, ?_⟩ <;> exact fD)
  · have e : collK l = (0, [], (redK l).2.2) := by unfold collK; rw [if_pos h0]
    rw [e]
    generalize redK l = R at *
    ((repeat' (first | (apply WL.opN; exact yF; dsimp only [setD, z0, z1]) | refine WL.nil ?_ | refine WC.seqK fun Kx hK => ?_ | (refine hK _ _ ?_; clear hK) | refine WC.region ?_ | (apply WL.alloc; (first | exact tzV | exact tzC); (first | exact shape_X rfl | exact shape_XV | exact shape_C0 rfl); (intro _; dsimp only [setD, z0, z1])) | (apply WL.storeF; (exact tD); rfl; (exact oD); (exact hD); dsimp only [setD, z0, z1]) | (apply WL.opG; (focus (first | exact wN | (apply SYG.yes; (exact wY); ((first | (apply SY.call (c0) Tryz.call20; (exact aD)) | ((first | apply SY.move | apply SY.assign | apply SY.gtr | apply SY.eql | apply SY.neq) <;> (exact oD)) | (apply SY.extract; (exact oD); rfl) | (apply SY.box; (exact oD); (exact hD)) | fail); all_goals infer_instance)))); dsimp only [setD, z0, z1]) | (apply WC.condN; (exact oD); all_goals (intro h; try exact xD)) | refine WC.ret ?_ | refine ThenD.r ?_)); all_goals (first | ((repeat clear hK); (repeat clear Kx))))
    all_goals first | (exfalso; omega) | (refine ⟨trivial, ⟨_, rfl, ?_⟩, ⟨_, rfl, ?_⟩, _, rfl, ?_⟩ <;> exact fD)
end Go.Proofs.YtjbepoofigokjaaGreat
