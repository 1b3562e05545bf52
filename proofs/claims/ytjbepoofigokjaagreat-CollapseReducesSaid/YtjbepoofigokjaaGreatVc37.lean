/-
  Part 37 of the texts that the claims of this seat lean on: walks of the program's functions by contracts over symbolic frames, and plain laws of what they compute. No condition.
-/
import Derived.Test.YtjbepoofigokjaaGreatVc21
import Derived.Test.YtjbepoofigokjaaGreatVc24
import Derived.Test.YtjbepoofigokjaaGreatVc27
import Derived.Test.YtjbepoofigokjaaGreatVc28
import Derived.Test.YtjbepoofigokjaaGreatVc31
import Derived.Test.YtjbepoofigokjaaGreatVc36
set_option linter.unusedVariables false
set_option linter.unusedSimpArgs false
set_option linter.unusedSectionVars false
namespace Go.Proofs.YtjbepoofigokjaaGreat
open Go.RowKit
set_option linter.unusedSimpArgs false

set_option maxHeartbeats 2000000
set_option maxRecDepth 100000
set_option maxHeartbeats 8000000 in
theorem reduced_c (l : Cx) (G : GoodX l) (hw : wholeN l 8 ≤ 4096) : Fn Tryz.prog 56 [dS Cpx l] (dT [dS Cpx (reducedC l).1, dS Cols (reducedC l).2]) := by
  (refine Fn.introC2 tyC Tryz.func56 rfl rfl ?_; simp only [Tryz.ntmps56, List.length_cons, List.length_nil, Nat.reduceAdd, Nat.reduceSub, List.replicate_succ, List.replicate_zero, List.cons_append, List.nil_append])
  obtain ⟨g1, g2⟩ := good_sizes (goodX_iff.2 G)
  have c1 := pairs_c l g1 (by omega)
  (repeat' (first | ((first | apply WL.opN | apply WD.opN); exact yF; dsimp only [setD, z0, z1]) | refine WL.nil ?_ | refine WC.seqK fun Kx hK => ?_ | (refine hK _ _ ?_; clear hK) | refine WC.region ?_ |  (refine WL.boxC (OpD.t rfl) shape_C fun b1 => ?_; dsimp only [setD, z0, z1]) | (apply WL.alloc; (first | exact tzV | exact tzC); (first | exact shape_X rfl | exact shape_XV | exact shape_C0 rfl); (intro _; dsimp only [setD, z0, z1])) | ((first | apply WL.opN | apply WD.opN); (focus ((first | (apply SY.call (c1) Tryz.call45; (exact aD)) | (apply SY.loadH tyC; exact OpD.t rfl; (first | exact .head _ | exact .tail _ (.head _))) | fail); all_goals infer_instance)); dsimp only [setD, z0, z1]) | refine WC.block ?_))
  rename Nat => b0
  refine WC.perm (List.Perm.swap _ _ _) ?_
  refine WC.nilRowK 36 2 (by decide) Col ?_
  refine WC.perm (List.Perm.swap _ _ _) ?_
  have hR : reducedC l = redC 4096 l := rfl
  generalize reducedC l = R at *
  (refine WC.loopU (X := Nat × Cx × List Cl × Value) (fun x => [(4, dX x.2.2.2), (5, dS Cols (pairsC x.2.1)), (8, dA), (9, dA), (10, dA), (11, dA), (12, dA), (13, dA), (14, dA), (15, dA), (16, dA), (17, dA), (18, dA), (19, dA), (20, dA), (21, dA), (22, dA), (23, dA)]) (fun x => [hCell b1 24 1 true (dS Cpx x.2.1), hRowK x.2.2.2 36 2 Col x.2.2.1, hCell b0 24 1 true (dX (.agg #[.slice none 0 0]))]) (fun x => x.1) (fun x => GoodX x.2.1 ∧ wholeN x.2.1 8 ≤ x.1 ∧ x.1 ≤ 4096 ∧ x.2.2.1.length ≤ 4096 - x.1 ∧ R = ((redC x.1 x.2.1).1, x.2.2.1 ++ (redC x.1 x.2.1).2)) (4096, l, [], .slice none 0 0) ?start ?frame0 ?objs0 ?round)
  case start => exact ⟨G, hw, Nat.le_refl _, Nat.zero_le _, hR⟩
  case frame0 => ((try dsimp only [upds, z0, z1]); repeat (first | exact LeF.nil | refine LeF.co (k := ?_)))
  case objs0 => rfl
  case round =>
    rintro ⟨n, cur, out, v⟩ ⟨k1, k2, k3, k4, k5⟩
    simp only at k1 k2 k3 k4 k5
    dsimp only [upds, z0, z1]
    have kl := (good_sizes (goodX_iff.2 k1)).2
    cases hL : pairsC cur with
    | nil =>
      rw [redC_nil hL, List.append_nil] at k5
      subst k5
      refine WC.perm (List.Perm.swap _ _ _) ?_
      ((repeat' (first | ((first | apply WL.opN | apply WD.opN); exact yF; dsimp only [setD, z0, z1]) | refine WL.nil ?_ | refine WC.seqK fun Kx hK => ?_ | (refine hK _ _ ?_; clear hK) | (refine Kont.skip ?_; clear hK) | refine WC.region ?_ | (apply WL.storeF2; (exact tD); rfl; (exact oD); (exact hD); dsimp only [setD, z0, z1]) | (apply WL.storeF3; (exact tD); rfl; (exact oD); (exact hD); dsimp only [setD, z0, z1]) | ((first | apply WL.opN | apply WD.opN); (focus ((first | (apply SY.loadH tyC; exact OpD.t rfl; (first | exact .head _ | exact .tail _ (.head _) | exact .tail _ (.tail _ (.head _)))) | ((first | apply SY.move | apply SY.assign | apply SY.gtr) <;> (exact oD)) | (apply SY.len; (exact oD); (exact nD); (exact uD)) | fail); all_goals infer_instance)); dsimp only [setD, z0, z1]) | (apply WC.condD; (exact oD); all_goals (intro h; try exact xD)) | refine WC.ret ?_ | refine WC.exit ?_)); all_goals (first | ((repeat clear hK); (repeat clear Kx))))
      (refine ⟨trivial, ⟨_, rfl, ?_⟩, _, rfl, ?_⟩ <;> exact fD)
    | cons x t =>
      have hx := pair_ok k1 (show x ∈ pairsC cur by rw [hL]; exact List.mem_cons_self ..)
      have h2 := left_two k1 hx
      have G2 := left_good k1 hx (by omega)
      obtain ⟨q1, q2⟩ := good_sizes (goodX_iff.2 G2)
      have c2 := left_c cur x (chk_len hx.chk2) (by omega)
      have c3 := pairs_c (leftC cur x) q1 (by omega)
      obtain ⟨n, rfl⟩ : ∃ m, n = m + 1 := ⟨n - 1, by omega⟩
      rw [redC_cons hL] at k5
      have hlen : (x :: t).length = t.length + 1 := rfl
      ((repeat' (first |  (apply WC.drawTail 5; kernel_rfl; kernel_rfl; simp only [List.take_succ_cons, List.take_zero, List.drop_succ_cons, List.drop_zero]) | ((first | apply WL.opN | apply WD.opN); exact yF; dsimp only [setD, z0, z1]) | refine WL.nil ?_ | refine WD.nil ?_ | refine WC.seqK fun Kx hK => ?_ | (refine hK _ _ ?_; clear hK) | refine WC.region ?_ |  (apply (WL.perm (List.Perm.swap _ _ _)); apply WL.storeK tyC; exact OpD.t rfl; exact OpD.t rfl; exact shape_C; dsimp only [setD, z0, z1]) | ((apply (WL.perm (List.Perm.swap _ _ _)); (first | apply WL.pushK | apply WL.push1); (exact eD); exact OpD.t rfl; (exact oD); (intro _; exact hD); (exact (by simp)); (exact (by simp)); (first | exact ⟨by decide, by decide⟩ | skip); decide; (exact lD); (intro _; dsimp only [setD, z0, z1]); all_goals (try infer_instance))) | ((first | apply WL.opN | apply WD.opN); (focus ((first | (apply SY.call (c2) Tryz.call52; (exact aD)) | (apply SY.call (c3) Tryz.call45; (exact aD)) | (refine SY.ixK (R := Col) (_gR := inferInstance) (k := 0) elCo (OpD.t rfl) OpD.i (by omega)) | (apply SY.loadH tyC; exact OpD.t rfl; (first | exact .head _ | exact .tail _ (.head _) | exact .tail _ (.tail _ (.head _)))) | ((first | apply SY.move | apply SY.assign | apply SY.gtr) <;> (exact oD)) | (apply SY.len; (exact oD); (exact nD); (exact uD)) | fail); all_goals infer_instance)); dsimp only [setD, z0, z1]) | (apply WC.condD; (exact oD); all_goals (intro h; try exact xD)) | refine WC.skip ?_ | refine WC.block ?_ | refine ThenD.n ?_ | refine InBlockD.n ?_)); all_goals (first | ((repeat clear hK); (repeat clear Kx))))
      (refine ⟨(n, leftC cur x, out ++ [x], _), ?_, by first | omega | (simp only; omega), rfl, ?_⟩; rotate_left; ((try dsimp only [upds, z0, z1]); repeat (first | exact LeF.nil | refine LeF.co (k := ?_))); (try dsimp only))
      refine ⟨G2, by show wholeN (leftC cur x) 8 ≤ n; omega, by show n ≤ 4096; omega, by show (out ++ [x]).length ≤ 4096 - n; rw [List.length_append, List.length_singleton]; omega, ?_⟩
      rw [k5]
      show (_, out ++ x :: _) = (_, (out ++ [x]) ++ _)
      rw [List.append_assoc]; rfl
def redK (l : Cx) : Cx × List Cl × Int := if chkC l ≠ 0 then ([], [], chkC l) else if 4096 < wholeN l 8 then ([], [], 17) else ((reducedC l).1, (reducedC l).2, 0)
theorem reduce32_c (l : Cx) : Fn Tryz.prog 21 [dS Cpx l] (dT [dS Cpx (redK l).1, dS Cols (redK l).2.1, dI (redK l).2.2]) := by
  (refine Fn.introC3 tyC Tryz.func21 rfl rfl ?_; simp only [Tryz.ntmps21, List.length_cons, List.length_nil, Nat.reduceAdd, Nat.reduceSub, List.replicate_succ, List.replicate_zero, List.cons_append, List.nil_append])
  have c0 := chk27_c l
  by_cases h0 : chkC l = 0
  · have G := goodX_iff.1 h0
    obtain ⟨g1, g2⟩ := good_sizes h0
    have c1 := whole_c l (fun s hs => (g1 s hs).2) g2
    by_cases hw : 4096 < wholeN l 8
    · have e : redK l = ([], [], 17) := by unfold redK; rw [if_neg (by omega), if_pos hw]
      rw [e]
      generalize wholeN l 8 = W at *
      ((repeat' (first | (apply WL.opN; exact yF; dsimp only [setD, z0, z1]) | refine WL.nil ?_ | refine WC.seqK fun Kx hK => ?_ | (refine hK _ _ ?_; clear hK) | refine WC.region ?_ | (apply WL.alloc; (first | exact tzV | exact tzC); (first | exact shape_X rfl | exact shape_XV | exact shape_C0 rfl); (intro _; dsimp only [setD, z0, z1])) | (apply WL.storeF; (exact tD); rfl; (exact oD); (exact hD); dsimp only [setD, z0, z1]) | (apply WL.opN; (focus ((first | (apply SY.call (c0) Tryz.call44; (exact aD)) | (apply SY.call (c1) Tryz.call55; (exact aD)) | ((first | apply SY.move | apply SY.assign | apply SY.gtr | apply SY.neq) <;> (exact oD)) | exact SY.mkC0 cpxT | (apply SY.box; (exact oD); (exact hD)) | fail); all_goals infer_instance)); dsimp only [setD, z0, z1]) | (apply WC.condD; (exact oD); all_goals (intro h; try exact xD)) | (apply WC.condN; (exact oD); all_goals (intro h; try exact xD)) | refine WC.skip ?_ | refine WC.ret ?_ | refine ThenD.r ?_)); all_goals (first | ((repeat clear hK); (repeat clear Kx))))
      all_goals first | (exfalso; omega) | (refine ⟨trivial, ⟨_, rfl, ?_⟩, ⟨_, rfl, ?_⟩, _, rfl, ?_⟩ <;> exact fD)
    · have e : redK l = ((reducedC l).1, (reducedC l).2, 0) := by unfold redK; rw [if_neg (by omega), if_neg hw]
      have c2 := reduced_c l G (by omega)
      rw [e]
      generalize reducedC l = R at *
      generalize wholeN l 8 = W at *
      ((repeat' (first | (apply WL.opN; exact yF; dsimp only [setD, z0, z1]) | refine WL.nil ?_ | refine WC.seqK fun Kx hK => ?_ | (refine hK _ _ ?_; clear hK) | refine WC.region ?_ | (apply WL.alloc; (first | exact tzV | exact tzC); (first | exact shape_X rfl | exact shape_XV | exact shape_C0 rfl); (intro _; dsimp only [setD, z0, z1])) | (apply WL.storeF; (exact tD); rfl; (exact oD); (exact hD); dsimp only [setD, z0, z1]) | (apply WL.opN; (focus ((first | (apply SY.call (c0) Tryz.call44; (exact aD)) | (apply SY.call (c1) Tryz.call55; (exact aD)) | (apply SY.call (c2) Tryz.call56; (exact aD)) | ((first | apply SY.move | apply SY.assign | apply SY.gtr | apply SY.neq) <;> (exact oD)) | (apply SY.extract; (exact oD); rfl) | (apply SY.box; (exact oD); (exact hD)) | fail); all_goals infer_instance)); dsimp only [setD, z0, z1]) | (apply WC.condD; (exact oD); all_goals (intro h; try exact xD)) | (apply WC.condN; (exact oD); all_goals (intro h; try exact xD)) | refine WC.skip ?_ | refine WC.ret ?_)); all_goals (first | ((repeat clear hK); (repeat clear Kx))))
      all_goals first | (exfalso; omega) | (refine ⟨trivial, ⟨_, rfl, ?_⟩, ⟨_, rfl, ?_⟩, _, rfl, ?_⟩ <;> exact fD)
  · have e : redK l = ([], [], chkC l) := by unfold redK; rw [if_pos h0]
    rw [e]
    ((repeat' (first | (apply WL.opN; exact yF; dsimp only [setD, z0, z1]) | refine WL.nil ?_ | refine WC.seqK fun Kx hK => ?_ | (refine hK _ _ ?_; clear hK) | refine WC.region ?_ | (apply WL.alloc; (first | exact tzV | exact tzC); (first | exact shape_X rfl | exact shape_XV | exact shape_C0 rfl); (intro _; dsimp only [setD, z0, z1])) | (apply WL.storeF; (exact tD); rfl; (exact oD); (exact hD); dsimp only [setD, z0, z1]) | (apply WL.opN; (focus ((first | (apply SY.call (c0) Tryz.call44; (exact aD)) | ((first | apply SY.move | apply SY.assign | apply SY.gtr | apply SY.neq) <;> (exact oD)) | exact SY.mkC0 cpxT | (apply SY.box; (exact oD); (exact hD)) | fail); all_goals infer_instance)); dsimp only [setD, z0, z1]) | (apply WC.condN; (exact oD); all_goals (intro h; try exact xD)) | refine WC.ret ?_ | refine ThenD.r ?_)); all_goals (first | ((repeat clear hK); (repeat clear Kx))))
    all_goals first | (exfalso; omega) | (refine ⟨trivial, ⟨_, rfl, ?_⟩, ⟨_, rfl, ?_⟩, _, rfl, ?_⟩ <;> exact fD)
def stepsV (c : Cx) : List Cl → Option Cx
  | [] => some c
  | x :: m => if x ∈ pairsC c then stepsV (leftC c x) m else none
def verK (l : Cx) (m : List Cl) (d : Cx) : Int := if chkC l ≠ 0 then chkC l else if chkC d ≠ 0 then chkC d else if 4096 < m.length then 5 else if stepsV l m = some d then 0 else 18
def collK (l : Cx) : Int × List Cl × Int := if (redK l).2.2 ≠ 0 then (0, [], (redK l).2.2) else if (redK l).1.length = 1 ∧ ((redK l).1.getD 0 []).length = 1 then (1, (redK l).2.1, 0) else if connC l = false ∨ (eulC l).1 ≠ 1 then (2, [], 0) else (0, [], 0)
theorem redK_good {l : Cx} (h : (redK l).2.2 = 0) : chkC l = 0 := by
  unfold redK at h
  by_cases h0 : chkC l = 0
  · exact h0
  · rw [if_pos h0] at h; exact h
set_option maxHeartbeats 8000000 in
theorem coll32_c (l : Cx) : Fn Tryz.prog 23 [dS Cpx l] (dT [dI (collK l).1, dS Cols (collK l).2.1, dI (collK l).2.2]) := by
  (refine Fn.intro3 Tryz.func23 rfl rfl ?_; simp only [Tryz.ntmps23, List.length_cons, List.length_nil, Nat.reduceAdd, Nat.reduceSub, List.replicate_succ, List.replicate_zero, List.cons_append, List.nil_append])
  have c0 := reduce32_c l
  by_cases h0 : (redK l).2.2 = 0
  · have hc := redK_good h0
    have c1 := conn32_c l hc
    have c2 := euler_c l
    by_cases h1 : (redK l).1.length = 1
    · have h01 : 0 < (redK l).1.length := by omega
      have hg : (redK l).1.getD 0 [] = (redK l).1[0] := by rw [List.getD_eq_getElem?_getD, List.getElem?_eq_getElem h01]; rfl
      by_cases h2 : (redK l).1[0].length = 1
      · have e : collK l = (1, (redK l).2.1, 0) := by unfold collK; rw [if_neg (by omega), if_pos ⟨h1, by rw [hg]; exact h2⟩]
        rw [e]
        generalize redK l = R at *
        ((repeat' (first | (apply WL.opN; exact yF; dsimp only [setD, z0, z1]) | refine WL.nil ?_ | refine WC.seqK fun Kx hK => ?_ | (refine hK _ _ ?_; clear hK) | refine WC.region ?_ | (apply WL.alloc; (first | exact tzV | exact tzC); (first | exact shape_X rfl | exact shape_XV | exact shape_C0 rfl); (intro _; dsimp only [setD, z0, z1])) | (apply WL.storeF; (exact tD); rfl; (exact oD); (exact hD); dsimp only [setD, z0, z1]) | (apply WL.opG; (focus (first | exact wN | (apply SYG.yes; (exact wY); ((first | (apply SY.call (c0) Tryz.call21; (exact aD)) | (refine SY.ix (R := Verts) (_gR := inferInstance) (k := 0) elSi (OpD.t rfl) OpD.i h01) | ((first | apply SY.move | apply SY.assign | apply SY.eql | apply SY.neq | apply SY.not) <;> (exact oD)) | (apply SY.load; (exact tD); (exact oD)) | (apply SY.len; (exact oD); (exact nD); (exact uD)) | (apply SY.fldC cpxT; exact OpD.t rfl) | (apply SY.pickT; (exact oD); (with_reducible rfl); (exact oD)) | (apply SY.extract; (exact oD); rfl) | (apply SY.box; (exact oD); (exact hD)) | fail); all_goals infer_instance)))); dsimp only [setD, z0, z1]) | ((first | refine WL.caseP rfl rfl rfl (fun h => ?_) (fun h => ?_) | refine WL.caseN rfl rfl rfl (fun h => ?_) (fun h => ?_) | refine WL.caseB rfl rfl rfl (fun h => ?_) (fun h => ?_)) <;> (first | (exfalso; first | omega | contradiction) | (dsimp only [z0, z1]))) | (apply WC.condD; (exact oD); all_goals (intro h; try exact xD)) | (apply WC.condN; (exact oD); all_goals (intro h; try exact xD)) | refine WC.skip ?_ | refine WC.ret ?_ | refine ThenD.r ?_)); all_goals (first | ((repeat clear hK); (repeat clear Kx))))
        all_goals first | (exfalso; omega) | (refine ⟨trivial, ⟨_, rfl, ?_⟩, ⟨_, rfl, ?_⟩, _, rfl, ?_⟩ <;> exact fD)
      · have e : collK l = if connC l = false ∨ (eulC l).1 ≠ 1 then (2, [], 0) else (0, [], 0) := by unfold collK; rw [if_neg (by omega), if_neg (fun q => h2 (by rw [← hg]; exact q.2))]
        rw [e]
        clear e
        generalize redK l = R at *
        generalize connC l = CN at *
        generalize (eulC l).1 = EU at *
        generalize (eulC l).2 = EV at *
        by_cases h3 : EU = 1
        · cases CN
          · rw [if_pos (.inl rfl)]
            ((repeat' (first | (apply WL.opN; exact yF; dsimp only [setD, z0, z1]) | refine WL.nil ?_ | refine WC.seqK fun Kx hK => ?_ | (refine hK _ _ ?_; clear hK) | refine WC.region ?_ | (apply WL.alloc; (first | exact tzV | exact tzC); (first | exact shape_X rfl | exact shape_XV | exact shape_C0 rfl); (intro _; dsimp only [setD, z0, z1])) | (apply WL.storeF; (exact tD); rfl; (exact oD); (exact hD); dsimp only [setD, z0, z1]) | (apply WL.opG; (focus (first | exact wN | (apply SYG.yes; (exact wY); ((first | (apply SY.call (c0) Tryz.call21; (exact aD)) | (apply SY.call (c1) Tryz.call61; (exact aD)) | (apply SY.call (c2) Tryz.call60; (exact aD)) | (refine SY.ix (R := Verts) (_gR := inferInstance) (k := 0) elSi (OpD.t rfl) OpD.i h01) | ((first | apply SY.move | apply SY.assign | apply SY.eql | apply SY.neq | apply SY.not) <;> (exact oD)) | (apply SY.load; (exact tD); (exact oD)) | (apply SY.len; (exact oD); (exact nD); (exact uD)) | (apply SY.fldC cpxT; exact OpD.t rfl) | (apply SY.pickT; (exact oD); (with_reducible rfl); (exact oD)) | (apply SY.extract; (exact oD); rfl) | (apply SY.box; (exact oD); (exact hD)) | fail); all_goals infer_instance)))); dsimp only [setD, z0, z1]) | ((first | refine WL.caseP rfl rfl rfl (fun h => ?_) (fun h => ?_) | refine WL.caseN rfl rfl rfl (fun h => ?_) (fun h => ?_) | refine WL.caseB rfl rfl rfl (fun h => ?_) (fun h => ?_)) <;> (first | (exfalso; first | omega | contradiction) | (dsimp only [z0, z1]))) | (apply WC.condT; (exact oD); (with_reducible rfl)) | (apply WC.condD; (exact oD); all_goals (intro h; try exact xD)) | (apply WC.condN; (exact oD); all_goals (intro h; try exact xD)) | refine WC.skip ?_ | refine WC.ret ?_ | refine ThenD.r ?_)); all_goals (first | ((repeat clear hK); (repeat clear Kx))))
            all_goals first | (exfalso; omega) | (exfalso; contradiction) | (refine ⟨trivial, ⟨_, rfl, ?_⟩, ⟨_, rfl, ?_⟩, _, rfl, ?_⟩ <;> exact fD)
          · rw [if_neg (by simp [h3])]
            ((repeat' (first | (apply WL.opN; exact yF; dsimp only [setD, z0, z1]) | refine WL.nil ?_ | refine WC.seqK fun Kx hK => ?_ | (refine hK _ _ ?_; clear hK) | refine WC.region ?_ | (apply WL.alloc; (first | exact tzV | exact tzC); (first | exact shape_X rfl | exact shape_XV | exact shape_C0 rfl); (intro _; dsimp only [setD, z0, z1])) | (apply WL.storeF; (exact tD); rfl; (exact oD); (exact hD); dsimp only [setD, z0, z1]) | (apply WL.opG; (focus (first | exact wN | (apply SYG.yes; (exact wY); ((first | (apply SY.call (c0) Tryz.call21; (exact aD)) | (apply SY.call (c1) Tryz.call61; (exact aD)) | (apply SY.call (c2) Tryz.call60; (exact aD)) | (refine SY.ix (R := Verts) (_gR := inferInstance) (k := 0) elSi (OpD.t rfl) OpD.i h01) | ((first | apply SY.move | apply SY.assign | apply SY.eql | apply SY.neq | apply SY.not) <;> (exact oD)) | (apply SY.load; (exact tD); (exact oD)) | (apply SY.len; (exact oD); (exact nD); (exact uD)) | (apply SY.fldC cpxT; exact OpD.t rfl) | (apply SY.pickT; (exact oD); (with_reducible rfl); (exact oD)) | (apply SY.pickF; (exact oD); (with_reducible rfl); (exact oD)) | (apply SY.extract; (exact oD); rfl) | (apply SY.box; (exact oD); (exact hD)) | fail); all_goals infer_instance)))); dsimp only [setD, z0, z1]) | ((first | refine WL.caseP rfl rfl rfl (fun h => ?_) (fun h => ?_) | refine WL.caseN rfl rfl rfl (fun h => ?_) (fun h => ?_) | refine WL.caseB rfl rfl rfl (fun h => ?_) (fun h => ?_)) <;> (first | (exfalso; first | omega | contradiction) | (dsimp only [z0, z1]))) | (apply WC.condD; (exact oD); all_goals (intro h; try exact xD)) | (apply WC.condN; (exact oD); all_goals (intro h; try exact xD)) | refine WC.skip ?_ | refine WC.ret ?_)); all_goals (first | ((repeat clear hK); (repeat clear Kx))))
            all_goals first | (exfalso; omega) | (exfalso; contradiction) | (refine ⟨trivial, ⟨_, rfl, ?_⟩, ⟨_, rfl, ?_⟩, _, rfl, ?_⟩ <;> exact fD)
        · rw [if_pos (.inr h3)]
          cases CN
          all_goals
            ((repeat' (first | (apply WL.opN; exact yF; dsimp only [setD, z0, z1]) | refine WL.nil ?_ | refine WC.seqK fun Kx hK => ?_ | (refine hK _ _ ?_; clear hK) | refine WC.region ?_ | (apply WL.alloc; (first | exact tzV | exact tzC); (first | exact shape_X rfl | exact shape_XV | exact shape_C0 rfl); (intro _; dsimp only [setD, z0, z1])) | (apply WL.storeF; (exact tD); rfl; (exact oD); (exact hD); dsimp only [setD, z0, z1]) | (apply WL.opG; (focus (first | exact wN | (apply SYG.yes; (exact wY); ((first | (apply SY.call (c0) Tryz.call21; (exact aD)) | (apply SY.call (c1) Tryz.call61; (exact aD)) | (apply SY.call (c2) Tryz.call60; (exact aD)) | (refine SY.ix (R := Verts) (_gR := inferInstance) (k := 0) elSi (OpD.t rfl) OpD.i h01) | ((first | apply SY.move | apply SY.assign | apply SY.eql | apply SY.neq | apply SY.not) <;> (exact oD)) | (apply SY.load; (exact tD); (exact oD)) | (apply SY.len; (exact oD); (exact nD); (exact uD)) | (apply SY.fldC cpxT; exact OpD.t rfl) | (apply SY.pickT; (exact oD); (with_reducible rfl); (exact oD)) | (apply SY.pickF; (exact oD); (with_reducible rfl); (exact oD)) | (apply SY.extract; (exact oD); rfl) | (apply SY.box; (exact oD); (exact hD)) | fail); all_goals infer_instance)))); dsimp only [setD, z0, z1]) | ((first | refine WL.caseP rfl rfl rfl (fun h => ?_) (fun h => ?_) | refine WL.caseN rfl rfl rfl (fun h => ?_) (fun h => ?_) | refine WL.caseB rfl rfl rfl (fun h => ?_) (fun h => ?_)) <;> (first | (exfalso; first | omega | contradiction) | (dsimp only [z0, z1]))) | (apply WC.condT; (exact oD); (with_reducible rfl)) | (apply WC.condD; (exact oD); all_goals (intro h; try exact xD)) | (apply WC.condN; (exact oD); all_goals (intro h; try exact xD)) | refine WC.skip ?_ | refine WC.ret ?_ | refine ThenD.r ?_)); all_goals (first | ((repeat clear hK); (repeat clear Kx))))
            all_goals first | (exfalso; omega) | (exfalso; contradiction) | (refine ⟨trivial, ⟨_, rfl, ?_⟩, ⟨_, rfl, ?_⟩, _, rfl, ?_⟩ <;> exact fD)
    · have e : collK l = if connC l = false ∨ (eulC l).1 ≠ 1 then (2, [], 0) else (0, [], 0) := by unfold collK; rw [if_neg (by omega), if_neg (fun q => h1 q.1)]
      rw [e]
      clear e
      generalize redK l = R at *
      generalize connC l = CN at *
      generalize (eulC l).1 = EU at *
      generalize (eulC l).2 = EV at *
      by_cases h3 : EU = 1
      · cases CN
        · rw [if_pos (.inl rfl)]
          ((repeat' (first | (apply WL.opN; exact yF; dsimp only [setD, z0, z1]) | refine WL.nil ?_ | refine WC.seqK fun Kx hK => ?_ | (refine hK _ _ ?_; clear hK) | refine WC.region ?_ | (apply WL.alloc; (first | exact tzV | exact tzC); (first | exact shape_X rfl | exact shape_XV | exact shape_C0 rfl); (intro _; dsimp only [setD, z0, z1])) | (apply WL.storeF; (exact tD); rfl; (exact oD); (exact hD); dsimp only [setD, z0, z1]) | (apply WL.opG; (focus (first | exact wN | (apply SYG.yes; (exact wY); ((first | (apply SY.call (c0) Tryz.call21; (exact aD)) | (apply SY.call (c1) Tryz.call61; (exact aD)) | (apply SY.call (c2) Tryz.call60; (exact aD)) | ((first | apply SY.move | apply SY.assign | apply SY.eql | apply SY.neq | apply SY.not) <;> (exact oD)) | (apply SY.len; (exact oD); (exact nD); (exact uD)) | (apply SY.fldC cpxT; exact OpD.t rfl) | (apply SY.pickT; (exact oD); (with_reducible rfl); (exact oD)) | (apply SY.pickF; (exact oD); (with_reducible rfl); (exact oD)) | (apply SY.extract; (exact oD); rfl) | (apply SY.box; (exact oD); (exact hD)) | fail); all_goals infer_instance)))); dsimp only [setD, z0, z1]) | ((first | refine WL.caseP rfl rfl rfl (fun h => ?_) (fun h => ?_) | refine WL.caseN rfl rfl rfl (fun h => ?_) (fun h => ?_) | refine WL.caseB rfl rfl rfl (fun h => ?_) (fun h => ?_)) <;> (first | (exfalso; first | omega | contradiction) | (dsimp only [z0, z1]))) | (apply WC.condT; (exact oD); (with_reducible rfl)) | (apply WC.condF; (exact oD); (with_reducible rfl)) | (apply WC.condN; (exact oD); all_goals (intro h; try exact xD)) | refine WC.skip ?_ | refine WC.ret ?_ | refine ThenD.r ?_)); all_goals (first | ((repeat clear hK); (repeat clear Kx))))
          all_goals first | (exfalso; omega) | (exfalso; contradiction) | (refine ⟨trivial, ⟨_, rfl, ?_⟩, ⟨_, rfl, ?_⟩, _, rfl, ?_⟩ <;> exact fD)
        · rw [if_neg (by simp [h3])]
          ((repeat' (first | (apply WL.opN; exact yF; dsimp only [setD, z0, z1]) | refine WL.nil ?_ | refine WC.seqK fun Kx hK => ?_ | (refine hK _ _ ?_; clear hK) | refine WC.region ?_ | (apply WL.alloc; (first | exact tzV | exact tzC); (first | exact shape_X rfl | exact shape_XV | exact shape_C0 rfl); (intro _; dsimp only [setD, z0, z1])) | (apply WL.storeF; (exact tD); rfl; (exact oD); (exact hD); dsimp only [setD, z0, z1]) | (apply WL.opG; (focus (first | exact wN | (apply SYG.yes; (exact wY); ((first | (apply SY.call (c0) Tryz.call21; (exact aD)) | (apply SY.call (c1) Tryz.call61; (exact aD)) | (apply SY.call (c2) Tryz.call60; (exact aD)) | ((first | apply SY.move | apply SY.assign | apply SY.eql | apply SY.neq | apply SY.not) <;> (exact oD)) | (apply SY.len; (exact oD); (exact nD); (exact uD)) | (apply SY.fldC cpxT; exact OpD.t rfl) | (apply SY.pickF; (exact oD); (with_reducible rfl); (exact oD)) | (apply SY.extract; (exact oD); rfl) | (apply SY.box; (exact oD); (exact hD)) | fail); all_goals infer_instance)))); dsimp only [setD, z0, z1]) | ((first | refine WL.caseP rfl rfl rfl (fun h => ?_) (fun h => ?_) | refine WL.caseN rfl rfl rfl (fun h => ?_) (fun h => ?_) | refine WL.caseB rfl rfl rfl (fun h => ?_) (fun h => ?_)) <;> (first | (exfalso; first | omega | contradiction) | (dsimp only [z0, z1]))) | (apply WC.condF; (exact oD); (with_reducible rfl)) | (apply WC.condN; (exact oD); all_goals (intro h; try exact xD)) | refine WC.skip ?_ | refine WC.ret ?_)); all_goals (first | ((repeat clear hK); (repeat clear Kx))))
          all_goals first | (exfalso; omega) | (exfalso; contradiction) | (refine ⟨trivial, ⟨_, rfl, ?_⟩, ⟨_, rfl, ?_⟩, _, rfl, ?_⟩ <;> exact fD)
      · rw [if_pos (.inr h3)]
        cases CN
        all_goals
          ((repeat' (first | (apply WL.opN; exact yF; dsimp only [setD, z0, z1]) | refine WL.nil ?_ | refine WC.seqK fun Kx hK => ?_ | (refine hK _ _ ?_; clear hK) | refine WC.region ?_ | (apply WL.alloc; (first | exact tzV | exact tzC); (first | exact shape_X rfl | exact shape_XV | exact shape_C0 rfl); (intro _; dsimp only [setD, z0, z1])) | (apply WL.storeF; (exact tD); rfl; (exact oD); (exact hD); dsimp only [setD, z0, z1]) | (apply WL.opG; (focus (first | exact wN | (apply SYG.yes; (exact wY); ((first | (apply SY.call (c0) Tryz.call21; (exact aD)) | (apply SY.call (c1) Tryz.call61; (exact aD)) | (apply SY.call (c2) Tryz.call60; (exact aD)) | ((first | apply SY.move | apply SY.assign | apply SY.eql | apply SY.neq | apply SY.not) <;> (exact oD)) | (apply SY.len; (exact oD); (exact nD); (exact uD)) | (apply SY.fldC cpxT; exact OpD.t rfl) | (apply SY.pickT; (exact oD); (with_reducible rfl); (exact oD)) | (apply SY.pickF; (exact oD); (with_reducible rfl); (exact oD)) | (apply SY.extract; (exact oD); rfl) | (apply SY.box; (exact oD); (exact hD)) | fail); all_goals infer_instance)))); dsimp only [setD, z0, z1]) | ((first | refine WL.caseP rfl rfl rfl (fun h => ?_) (fun h => ?_) | refine WL.caseN rfl rfl rfl (fun h => ?_) (fun h => ?_) | refine WL.caseB rfl rfl rfl (fun h => ?_) (fun h => ?_)) <;> (first | (exfalso; first | omega | contradiction) | (dsimp only [z0, z1]))) | (apply WC.condT; (exact oD); (with_reducible rfl)) | (apply WC.condF; (exact oD); (with_reducible rfl)) | (apply WC.condN; (exact oD); all_goals (intro h; try exact xD)) | refine WC.skip ?_ | refine WC.ret ?_ | refine ThenD.r ?_)); all_goals (first | ((repeat clear hK); (repeat clear Kx))))
          all_goals first | (exfalso; omega) | (exfalso; contradiction) | (refine ⟨trivial, ⟨_, rfl, ?_⟩, ⟨_, rfl, ?_⟩, _, rfl, ?_⟩ <;> exact fD)
  · have e : collK l = (0, [], (redK l).2.2) := by unfold collK; rw [if_pos h0]
    rw [e]
    generalize redK l = R at *
    ((repeat' (first | (apply WL.opN; exact yF; dsimp only [setD, z0, z1]) | refine WL.nil ?_ | refine WC.seqK fun Kx hK => ?_ | (refine hK _ _ ?_; clear hK) | refine WC.region ?_ | (apply WL.alloc; (first | exact tzV | exact tzC); (first | exact shape_X rfl | exact shape_XV | exact shape_C0 rfl); (intro _; dsimp only [setD, z0, z1])) | (apply WL.storeF; (exact tD); rfl; (exact oD); (exact hD); dsimp only [setD, z0, z1]) | (apply WL.opG; (focus (first | exact wN | (apply SYG.yes; (exact wY); ((first | (apply SY.call (c0) Tryz.call21; (exact aD)) | ((first | apply SY.move | apply SY.assign | apply SY.eql | apply SY.neq | apply SY.not) <;> (exact oD)) | (apply SY.extract; (exact oD); rfl) | (apply SY.box; (exact oD); (exact hD)) | fail); all_goals infer_instance)))); dsimp only [setD, z0, z1]) | (apply WC.condN; (exact oD); all_goals (intro h; try exact xD)) | refine WC.ret ?_ | refine ThenD.r ?_)); all_goals (first | ((repeat clear hK); (repeat clear Kx))))
    all_goals first | (exfalso; omega) | (refine ⟨trivial, ⟨_, rfl, ?_⟩, ⟨_, rfl, ?_⟩, _, rfl, ?_⟩ <;> exact fD)
end Go.Proofs.YtjbepoofigokjaaGreat
namespace Go.Proofs.YtjbepoofigokjaaGreat
open Go.RowKit
set_option linter.unusedSimpArgs false

set_option maxHeartbeats 2000000
set_option maxRecDepth 100000
theorem left_few {l : Cx} (G : GoodX l) {x : Cl} (hx : PairOk l x) (hw : wholeN l 8 ≤ 4098) : (leftC l x).length ≤ 4096 := (left_good G hx hw).1
set_option maxHeartbeats 8000000 in
theorem step32_p (l : Cx) (x : Cl) (hw : chkC l = 0 → wholeN l 8 ≤ 4098) : Fn Tryz.prog 17 [dS Cpx l, dS Col x] (dT [dS Cpx (stepK l x).1, dI (stepK l x).2]) := by
  (refine Fn.introC2 tyC Tryz.func17 rfl rfl ?_; simp only [Tryz.ntmps17, List.length_cons, List.length_nil, Nat.reduceAdd, Nat.reduceSub, List.replicate_succ, List.replicate_zero, List.cons_append, List.nil_append])
  have c0 := check_p l
  have c1 := chk_p x.1
  have c2 := chk_p x.2
  by_cases h0 : chkC l = 0
  · by_cases h1 : chkV x.1 = 0
    · by_cases h2 : chkV x.2 = 0
      · have G := goodX_iff.1 h0
        have c3 := is32_p l G x
        by_cases h3 : x ∈ pairsC l
        · rw [decide_eq_true h3] at c3
          have hx := pair_ok G h3
          have h4 := left_few G hx (hw h0)
          have c4 := after32_p l G x hx h4
          have e : stepK l x = (leftC l x, 0) := by unfold stepK; rw [if_neg (by omega), if_neg (by omega), if_neg (by omega), if_neg (by simpa using h3), if_neg (by omega)]
          rw [e]
          generalize leftC l x = L at *
          ((repeat' (first | (apply WL.opN; exact yF; dsimp only [setD, z0, z1]) | refine WL.nil ?_ | refine WC.seqK fun Kx hK => ?_ | (refine hK _ _ ?_; clear hK) | refine WC.region ?_ | (apply WL.alloc; (first | exact tzV | exact tzC); (first | exact shape_X rfl | exact shape_XV | exact shape_C0 rfl); (intro _; dsimp only [setD, z0, z1])) | (apply WL.storeF; (exact tD); rfl; (exact oD); (exact hD); dsimp only [setD, z0, z1]) | (apply WL.opN; (focus ((first | (apply SY.call (c0) Tryz.call35; (exact aD)) | (apply SY.call (c1) Tryz.call47; exact ArgsD.cons (OpD.t rfl) (ArgsD.nil)) | (apply SY.call (c2) Tryz.call47; exact ArgsD.cons (OpD.t rfl) (ArgsD.nil)) | (apply SY.call (c3) Tryz.call48; (exact aD)) | (apply SY.call (c4) Tryz.call49; (exact aD)) | ((first | apply SY.move | apply SY.assign | apply SY.neq | apply SY.not) <;> (exact oD)) | (apply SY.fldP0 colT; exact OpD.t rfl) | (apply SY.fldP1 colT; exact OpD.t rfl) | (apply SY.extract; (exact oD); rfl) | (apply SY.box; (exact oD); (exact hD)) | fail); all_goals infer_instance)); dsimp only [setD, z0, z1]) | (apply WC.condN; (exact oD); all_goals (intro h; try exact xD)) | (apply WC.condNB; (exact oD); all_goals (intro h; try exact xD)) | refine WC.skip ?_ | refine WC.ret ?_)); all_goals (first | ((repeat clear hK); (repeat clear Kx))))
          all_goals first | (exfalso; omega) | (refine ⟨trivial, ⟨_, rfl, ?_⟩, _, rfl, ?_⟩ <;> exact fD)
        · rw [decide_eq_false h3] at c3
          have e : stepK l x = ([], 6) := by unfold stepK; rw [if_neg (by omega), if_neg (by omega), if_neg (by omega), if_pos h3]
          rw [e]
          ((repeat' (first | (apply WL.opN; exact yF; dsimp only [setD, z0, z1]) | refine WL.nil ?_ | refine WC.seqK fun Kx hK => ?_ | (refine hK _ _ ?_; clear hK) | refine WC.region ?_ | (apply WL.alloc; (first | exact tzV | exact tzC); (first | exact shape_X rfl | exact shape_XV | exact shape_C0 rfl); (intro _; dsimp only [setD, z0, z1])) | (apply WL.storeF; (exact tD); rfl; (exact oD); (exact hD); dsimp only [setD, z0, z1]) | (apply WL.opN; (focus ((first | (apply SY.call (c0) Tryz.call35; (exact aD)) | (apply SY.call (c1) Tryz.call47; exact ArgsD.cons (OpD.t rfl) (ArgsD.nil)) | (apply SY.call (c2) Tryz.call47; exact ArgsD.cons (OpD.t rfl) (ArgsD.nil)) | (apply SY.call (c3) Tryz.call48; (exact aD)) | ((first | apply SY.move | apply SY.assign | apply SY.neq | apply SY.not) <;> (exact oD)) | exact SY.mkC0 cpxT | (apply SY.fldP0 colT; exact OpD.t rfl) | (apply SY.fldP1 colT; exact OpD.t rfl) | (apply SY.box; (exact oD); (exact hD)) | fail); all_goals infer_instance)); dsimp only [setD, z0, z1]) | (apply WC.condN; (exact oD); all_goals (intro h; try exact xD)) | (apply WC.condNB; (exact oD); all_goals (intro h; try exact xD)) | refine WC.skip ?_ | refine WC.ret ?_ | refine ThenD.r ?_)); all_goals (first | ((repeat clear hK); (repeat clear Kx))))
          all_goals first | (exfalso; omega) | (refine ⟨trivial, ⟨_, rfl, ?_⟩, _, rfl, ?_⟩ <;> exact fD)
      · have e : stepK l x = ([], chkV x.2) := by unfold stepK; rw [if_neg (by omega), if_neg (by omega), if_pos h2]
        rw [e]
        ((repeat' (first | (apply WL.opN; exact yF; dsimp only [setD, z0, z1]) | refine WL.nil ?_ | refine WC.seqK fun Kx hK => ?_ | (refine hK _ _ ?_; clear hK) | refine WC.region ?_ | (apply WL.alloc; (first | exact tzV | exact tzC); (first | exact shape_X rfl | exact shape_XV | exact shape_C0 rfl); (intro _; dsimp only [setD, z0, z1])) | (apply WL.storeF; (exact tD); rfl; (exact oD); (exact hD); dsimp only [setD, z0, z1]) | (apply WL.opN; (focus ((first | (apply SY.call (c0) Tryz.call35; (exact aD)) | (apply SY.call (c1) Tryz.call47; exact ArgsD.cons (OpD.t rfl) (ArgsD.nil)) | (apply SY.call (c2) Tryz.call47; exact ArgsD.cons (OpD.t rfl) (ArgsD.nil)) | ((first | apply SY.move | apply SY.assign | apply SY.neq | apply SY.not) <;> (exact oD)) | exact SY.mkC0 cpxT | (apply SY.fldP0 colT; exact OpD.t rfl) | (apply SY.fldP1 colT; exact OpD.t rfl) | (apply SY.box; (exact oD); (exact hD)) | fail); all_goals infer_instance)); dsimp only [setD, z0, z1]) | (apply WC.condN; (exact oD); all_goals (intro h; try exact xD)) | refine WC.skip ?_ | refine WC.ret ?_ | refine ThenD.r ?_)); all_goals (first | ((repeat clear hK); (repeat clear Kx))))
        all_goals first | (exfalso; omega) | (refine ⟨trivial, ⟨_, rfl, ?_⟩, _, rfl, ?_⟩ <;> exact fD)
    · have e : stepK l x = ([], chkV x.1) := by unfold stepK; rw [if_neg (by omega), if_pos h1]
      rw [e]
      ((repeat' (first | (apply WL.opN; exact yF; dsimp only [setD, z0, z1]) | refine WL.nil ?_ | refine WC.seqK fun Kx hK => ?_ | (refine hK _ _ ?_; clear hK) | refine WC.region ?_ | (apply WL.alloc; (first | exact tzV | exact tzC); (first | exact shape_X rfl | exact shape_XV | exact shape_C0 rfl); (intro _; dsimp only [setD, z0, z1])) | (apply WL.storeF; (exact tD); rfl; (exact oD); (exact hD); dsimp only [setD, z0, z1]) | (apply WL.opN; (focus ((first | (apply SY.call (c0) Tryz.call35; (exact aD)) | (apply SY.call (c1) Tryz.call47; exact ArgsD.cons (OpD.t rfl) (ArgsD.nil)) | ((first | apply SY.move | apply SY.assign | apply SY.neq | apply SY.not) <;> (exact oD)) | exact SY.mkC0 cpxT | (apply SY.fldP0 colT; exact OpD.t rfl) | (apply SY.fldP1 colT; exact OpD.t rfl) | (apply SY.box; (exact oD); (exact hD)) | fail); all_goals infer_instance)); dsimp only [setD, z0, z1]) | (apply WC.condN; (exact oD); all_goals (intro h; try exact xD)) | refine WC.skip ?_ | refine WC.ret ?_ | refine ThenD.r ?_)); all_goals (first | ((repeat clear hK); (repeat clear Kx))))
      all_goals first | (exfalso; omega) | (refine ⟨trivial, ⟨_, rfl, ?_⟩, _, rfl, ?_⟩ <;> exact fD)
  · have e : stepK l x = ([], chkC l) := by unfold stepK; rw [if_pos h0]
    rw [e]
    ((repeat' (first | (apply WL.opN; exact yF; dsimp only [setD, z0, z1]) | refine WL.nil ?_ | refine WC.seqK fun Kx hK => ?_ | (refine hK _ _ ?_; clear hK) | refine WC.region ?_ | (apply WL.alloc; (first | exact tzV | exact tzC); (first | exact shape_X rfl | exact shape_XV | exact shape_C0 rfl); (intro _; dsimp only [setD, z0, z1])) | (apply WL.storeF; (exact tD); rfl; (exact oD); (exact hD); dsimp only [setD, z0, z1]) | (apply WL.opN; (focus ((first | (apply SY.call (c0) Tryz.call35; (exact aD)) | ((first | apply SY.move | apply SY.assign | apply SY.neq | apply SY.not) <;> (exact oD)) | exact SY.mkC0 cpxT | (apply SY.box; (exact oD); (exact hD)) | fail); all_goals infer_instance)); dsimp only [setD, z0, z1]) | (apply WC.condN; (exact oD); all_goals (intro h; try exact xD)) | refine WC.ret ?_ | refine ThenD.r ?_)); all_goals (first | ((repeat clear hK); (repeat clear Kx))))
    all_goals first | (exfalso; omega) | (refine ⟨trivial, ⟨_, rfl, ?_⟩, _, rfl, ?_⟩ <;> exact fD)
theorem of_good {l : Cx} (G : GoodX l) : ofP l = (l, 0) := by
  unfold ofP
  rw [if_neg (by have := G.1; omega), errC_of G.2.2.1, if_neg (by omega), max_good G]
end Go.Proofs.YtjbepoofigokjaaGreat
