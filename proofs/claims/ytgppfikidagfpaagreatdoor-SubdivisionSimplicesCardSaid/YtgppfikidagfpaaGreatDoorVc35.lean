/-
  Part 35 of the texts that the claims of this seat lean on: walks of the program's functions by contracts over symbolic frames, and plain laws of what they compute. No condition.
-/
import Derived.Test.YtgppfikidagfpaaGreatDoorVc11
import Derived.Test.YtgppfikidagfpaaGreatDoorVc23
import Derived.Test.YtgppfikidagfpaaGreatDoorVc27
import Derived.Test.YtgppfikidagfpaaGreatDoorVc34
set_option linter.unusedVariables false
set_option linter.unusedSimpArgs false
set_option linter.unusedSectionVars false
namespace Go.Proofs.YtgppfikidagfpaaGreatDoor
open Go.RowKit
set_option linter.unusedSimpArgs false

set_option maxHeartbeats 2000000
set_option maxRecDepth 100000
theorem divR_drop {l : List Int} {n k : Nat} {all : Int} (h : k < l.length) : divR (l.drop k) n all = if l[k] < 1 ∨ ((2 ^ n : Nat) : Int) ≤ l[k] ∨ iand all l[k] ≠ 0 then false else divR (l.drop (k + 1)) n (ior all l[k]) := by
  rw [drop_cons' h]; rfl
set_option maxHeartbeats 4000000 in
theorem divides29_c (l : List Int) (n : Nat) (hn : n ≤ 8) : Fn Tryz.prog 67 [dS Ints l, dI (n : Int)] (dB (divR l n 0)) := by
  have hshl := ishl_pow ⟨n, by omega⟩
  simp only at hshl
  have hpos := Nat.two_pow_pos n
  have hp : 2 ^ n ≤ 256 := Nat.pow_le_pow_right (n := 2) (by decide) hn
  (refine Fn.intro1 Tryz.func67 rfl rfl ?_; simp only [Tryz.ntmps67, List.length_cons, List.length_nil, Nat.reduceAdd, Nat.reduceSub, List.replicate_succ, List.replicate_zero, List.cons_append, List.nil_append])
  (first | refine WC.know (t := 0) rfl le_K fun hl0 => ?_ | refine WC.know (t := 0) rfl le_A fun hl0 => ?_ | refine WC.know (t := 0) rfl le_C fun hl0 => ?_); simp only [maxLen] at hl0
  (repeat' (first | (apply WL.opN; exact yF; dsimp only [setD, z0, z1]) | refine WL.nil ?_ | refine WC.seqK fun Kx hK => ?_ | (refine hK _ _ ?_; clear hK) | refine WC.region ?_ | refine WC.block ?_))
  (refine WC.loopU (X := Nat × Int) (fun x => [(5, dI x.2), (6, dI (x.1 : Int)), (4, dA), (7, dA), (8, dA), (9, dA), (10, dA), (11, dA), (12, dA), (13, dA), (14, dA), (15, dA), (16, dA), (17, dA), (18, dA), (19, dA), (20, dA), (21, dA), (22, dA), (23, dA), (24, dA), (25, dA), (26, dA), (27, dA), (28, dA), (29, dA), (30, dA), (31, dA), (32, dA), (33, dA), (34, dA)]) (fun x => []) (fun x => l.length - x.1) (fun x => x.1 ≤ l.length ∧ divR (l.drop x.1) n x.2 = divR l n 0) (0, 0) ?start ?frame0 ?objs0 ?round)
  case start => exact ⟨Nat.zero_le _, rfl⟩
  case frame0 => ((try dsimp only [upds, z0, z1]); repeat (first | exact LeF.nil | refine LeF.co (k := ?_)))
  case objs0 => rfl
  case round =>
    rintro ⟨k, all⟩ ⟨h1, h2⟩
    simp only at h1 h2
    dsimp only [upds, z0, z1]
    by_cases hk : k < l.length
    · rw [divR_drop hk] at h2
      by_cases q1 : l[k] < 1
      · rw [if_pos (.inl q1)] at h2
        rw [← h2]
        ((repeat' (first | (apply WL.opN; exact yF; dsimp only [setD, z0, z1]) | refine WL.nil ?_ | refine WC.seqK fun Kx hK => ?_ | (refine hK _ _ ?_; clear hK) | refine WC.region ?_ | (apply WL.opG; (focus (first | exact wN | (apply SYG.yes; (exact wY); ((first | ((first | apply SY.move | apply SY.assign | apply SY.lss | apply SY.geq | apply SY.eql | apply SY.neq | apply SY.and | apply SY.or) <;> (exact oD)) | (apply SY.len; (exact oD); (exact nD); (exact uD)) | (apply SY.ix; (exact eD); (exact oD); (exact oD); exact kD) | (apply SY.pickT; (exact oD); (with_reducible rfl); (exact oD)) | fail); all_goals infer_instance)))); dsimp only [setD, z0, z1]) | ((first | refine WL.caseP rfl rfl rfl (fun h => ?_) (fun h => ?_) | refine WL.caseN rfl rfl rfl (fun h => ?_) (fun h => ?_) | refine WL.caseB rfl rfl rfl (fun h => ?_) (fun h => ?_)) <;> (first | (exfalso; first | omega | contradiction) | (dsimp only [z0, z1]))) | (apply WC.condT; (exact oD); (with_reducible rfl)) | (apply WC.condD; (exact oD); all_goals (intro h; try exact xD)) | refine WC.skip ?_ | refine WC.ret ?_ | refine WC.block ?_ | refine ThenD.r ?_ | refine InBlockD.r ?_)); all_goals (first | ((repeat clear hK); (repeat clear Kx))))
        all_goals try (exfalso; first | contradiction | omega)
        all_goals (refine ⟨trivial, _, rfl, ?_⟩; exact fD)
      · by_cases q2 : ((2 ^ n : Nat) : Int) ≤ l[k]
        · rw [if_pos (.inr (.inl q2))] at h2
          rw [← h2]
          ((repeat' (first | (apply WL.opN; exact yF; dsimp only [setD, z0, z1]) | refine WL.nil ?_ | refine WC.seqK fun Kx hK => ?_ | (refine hK _ _ ?_; clear hK) | refine WC.region ?_ | (apply WL.opG; (focus (first | exact wN | (apply SYG.yes; (exact wY); ((first | (exact SY.shlE hshl (by omega) OpD.i (OpD.t rfl)) | ((first | apply SY.move | apply SY.assign | apply SY.lss | apply SY.geq | apply SY.eql | apply SY.neq | apply SY.and | apply SY.or) <;> (exact oD)) | (apply SY.len; (exact oD); (exact nD); (exact uD)) | (apply SY.ix; (exact eD); (exact oD); (exact oD); exact kD) | (apply SY.pickT; (exact oD); (with_reducible rfl); (exact oD)) | (apply SY.pickF; (exact oD); (with_reducible rfl); (exact oD)) | fail); all_goals infer_instance)))); dsimp only [setD, z0, z1]) | ((first | refine WL.caseP rfl rfl rfl (fun h => ?_) (fun h => ?_) | refine WL.caseN rfl rfl rfl (fun h => ?_) (fun h => ?_) | refine WL.caseB rfl rfl rfl (fun h => ?_) (fun h => ?_)) <;> (first | (exfalso; first | omega | contradiction) | (dsimp only [z0, z1]))) | (apply WC.condT; (exact oD); (with_reducible rfl)) | (apply WC.condD; (exact oD); all_goals (intro h; try exact xD)) | refine WC.skip ?_ | refine WC.ret ?_ | refine WC.block ?_ | refine ThenD.r ?_ | refine InBlockD.r ?_)); all_goals (first | ((repeat clear hK); (repeat clear Kx))))
          all_goals try (exfalso; first | contradiction | omega)
          all_goals (refine ⟨trivial, _, rfl, ?_⟩; exact fD)
        · by_cases q3 : iand all l[k] = 0
          · rw [if_neg (by rintro (q | q | q); exact q1 q; exact q2 q; exact q q3)] at h2
            ((repeat' (first | (apply WL.opN; exact yF; dsimp only [setD, z0, z1]) | refine WL.nil ?_ | refine WC.seqK fun Kx hK => ?_ | (refine hK _ _ ?_; clear hK) | refine WC.region ?_ | (apply WL.opG; (focus (first | exact wN | (apply SYG.yes; (exact wY); ((first | (exact SY.shlE hshl (by omega) OpD.i (OpD.t rfl)) | ((first | apply SY.move | apply SY.assign | apply SY.lss | apply SY.geq | apply SY.eql | apply SY.neq | apply SY.and | apply SY.or) <;> (exact oD)) | ((first | apply SY.add | apply SY.sub) <;> first | exact oD | omega) | (apply SY.len; (exact oD); (exact nD); (exact uD)) | (apply SY.ix; (exact eD); (exact oD); (exact oD); exact kD) | (apply SY.pickF; (exact oD); (with_reducible rfl); (exact oD)) | fail); all_goals infer_instance)))); dsimp only [setD, z0, z1]) | ((first | refine WL.caseP rfl rfl rfl (fun h => ?_) (fun h => ?_) | refine WL.caseN rfl rfl rfl (fun h => ?_) (fun h => ?_) | refine WL.caseB rfl rfl rfl (fun h => ?_) (fun h => ?_)) <;> (first | (exfalso; first | omega | contradiction) | (dsimp only [z0, z1]))) | (apply WC.condD; (exact oD); all_goals (intro h; try exact xD)) | (apply WC.condN; (exact oD); all_goals (intro h; try exact xD)) | refine WC.skip ?_ | refine WC.block ?_ | refine ThenD.n ?_)); all_goals (first | ((repeat clear hK); (repeat clear Kx))))
            all_goals try (exfalso; first | contradiction | omega)
            (refine ⟨(k + 1, ior all l[k]), ?_, by first | omega | (simp only; omega), rfl, ?_⟩; rotate_left; ((try dsimp only [upds, z0, z1]); repeat (first | exact LeF.nil | refine LeF.co (k := ?_))); (try dsimp only))
            exact ⟨by omega, h2⟩
          · rw [if_pos (.inr (.inr q3))] at h2
            rw [← h2]
            ((repeat' (first | (apply WL.opN; exact yF; dsimp only [setD, z0, z1]) | refine WL.nil ?_ | refine WC.seqK fun Kx hK => ?_ | (refine hK _ _ ?_; clear hK) | refine WC.region ?_ | (apply WL.opG; (focus (first | exact wN | (apply SYG.yes; (exact wY); ((first | (exact SY.shlE hshl (by omega) OpD.i (OpD.t rfl)) | ((first | apply SY.move | apply SY.assign | apply SY.lss | apply SY.geq | apply SY.eql | apply SY.neq | apply SY.and | apply SY.or) <;> (exact oD)) | (apply SY.len; (exact oD); (exact nD); (exact uD)) | (apply SY.ix; (exact eD); (exact oD); (exact oD); exact kD) | (apply SY.pickF; (exact oD); (with_reducible rfl); (exact oD)) | fail); all_goals infer_instance)))); dsimp only [setD, z0, z1]) | ((first | refine WL.caseP rfl rfl rfl (fun h => ?_) (fun h => ?_) | refine WL.caseN rfl rfl rfl (fun h => ?_) (fun h => ?_) | refine WL.caseB rfl rfl rfl (fun h => ?_) (fun h => ?_)) <;> (first | (exfalso; first | omega | contradiction) | (dsimp only [z0, z1]))) | (apply WC.condD; (exact oD); all_goals (intro h; try exact xD)) | (apply WC.condN; (exact oD); all_goals (intro h; try exact xD)) | refine WC.skip ?_ | refine WC.ret ?_ | refine WC.block ?_ | refine ThenD.r ?_ | refine InBlockD.r ?_)); all_goals (first | ((repeat clear hK); (repeat clear Kx))))
            all_goals try (exfalso; first | contradiction | omega)
            all_goals (refine ⟨trivial, _, rfl, ?_⟩; exact fD)
    · rw [List.drop_of_length_le (by omega)] at h2
      have h2' : decide (all = ((2 ^ n - 1 : Nat) : Int)) = divR l n 0 := h2
      ((repeat' (first | (apply WL.opN; exact yF; dsimp only [setD, z0, z1]) | refine WL.nil ?_ | refine WC.seqK fun Kx hK => ?_ | (refine hK _ _ ?_; clear hK) | (refine Kont.skip ?_; clear hK) | refine WC.region ?_ | (apply WL.opG; (focus (first | exact wN | (apply SYG.yes; (exact wY); ((first | (exact SY.shlE hshl (by omega) OpD.i (OpD.t rfl)) | ((first | apply SY.move | apply SY.assign | apply SY.lss | apply SY.geq | apply SY.eql | apply SY.neq | apply SY.and | apply SY.or) <;> (exact oD)) | ((first | apply SY.add | apply SY.sub) <;> first | exact oD | omega) | (apply SY.len; (exact oD); (exact nD); (exact uD)) | fail); all_goals infer_instance)))); dsimp only [setD, z0, z1]) | (apply WC.condD; (exact oD); all_goals (intro h; try exact xD)) | refine WC.ret ?_ | refine WC.exit ?_)); all_goals (first | ((repeat clear hK); (repeat clear Kx))))
      all_goals try (exfalso; first | contradiction | omega)
      all_goals (refine ⟨trivial, _, rfl, ?_⟩; refine FinD.b ?_)
      exact (decide_eq_decide.2 (by omega)).trans h2'
theorem snapB_drop {bl : List Nat} {i k m : Nat} (h : k < bl.length) : snapB (bl.drop k) i m = if bitB bl[k] i = true then m ||| bl[k] else snapB (bl.drop (k + 1)) i (m ||| bl[k]) := by
  rw [drop_cons' h]
  show (if (bl[k] >>> i) &&& 1 = 1 then _ else _) = _
  by_cases q : (bl[k] >>> i) &&& 1 = 1
  · rw [if_pos q, if_pos (show bitB bl[k] i = true from decide_eq_true q)]
  · rw [if_neg q, if_neg (show ¬ bitB bl[k] i = true from fun c => q (of_decide_eq_true c))]
set_option maxHeartbeats 4000000 in
theorem snapshot29_c (bl : List Nat) (i : Nat) (hb : ∀ b ∈ bl, b < 1048576) (hi : i ≤ 60) : Fn Tryz.prog 118 [dS Ints (intsB bl), dI (i : Int)] (dI ((snapB bl i 0 : Nat) : Int)) := by
  (refine Fn.intro1 Tryz.func118 rfl rfl ?_; simp only [Tryz.ntmps118, List.length_cons, List.length_nil, Nat.reduceAdd, Nat.reduceSub, List.replicate_succ, List.replicate_zero, List.cons_append, List.nil_append])
  (first | refine WC.know (t := 0) rfl le_K fun hl0 => ?_ | refine WC.know (t := 0) rfl le_A fun hl0 => ?_ | refine WC.know (t := 0) rfl le_C fun hl0 => ?_); simp only [maxLen] at hl0
  rw [intsB_len] at hl0
  (repeat' (first | (apply WL.opN; exact yF; dsimp only [setD, z0, z1]) | refine WL.nil ?_ | refine WC.seqK fun Kx hK => ?_ | (refine hK _ _ ?_; clear hK) | refine WC.region ?_ | refine WC.block ?_))
  (refine WC.loopU (X := Nat × Nat) (fun x => [(5, dI (x.2 : Int)), (6, dI (x.1 : Int)), (4, dA), (7, dA), (8, dA), (9, dA), (10, dA), (11, dA), (12, dA), (13, dA), (14, dA), (15, dA), (16, dA), (17, dA), (18, dA), (19, dA), (20, dA), (21, dA), (22, dA), (23, dA), (24, dA), (25, dA), (26, dA), (27, dA)]) (fun x => []) (fun x => bl.length - x.1) (fun x => x.1 ≤ bl.length ∧ x.2 < 1048576 ∧ snapB (bl.drop x.1) i x.2 = snapB bl i 0) (0, 0) ?start ?frame0 ?objs0 ?round)
  case start => exact ⟨Nat.zero_le _, by decide, rfl⟩
  case frame0 => ((try dsimp only [upds, z0, z1]); repeat (first | exact LeF.nil | refine LeF.co (k := ?_)))
  case objs0 => rfl
  case round =>
    rintro ⟨k, m⟩ ⟨h1, h2, h3⟩
    simp only at h1 h2 h3
    dsimp only [upds, z0, z1]
    by_cases hkm : k < (intsB bl).length
    · have hk : k < bl.length := by rw [intsB_len] at hkm; exact hkm
      have hbk : bl[k] < 1048576 := hb _ (List.getElem_mem hk)
      have hor : m ||| bl[k] < 1048576 := Nat.or_lt_two_pow (n := 20) h2 hbk
      rw [snapB_drop hk] at h3
      cases hbit : bitB bl[k] i with
      | true =>
        rw [if_pos hbit] at h3
        have hcond := bitB_iff.2 hbit
        rw [← h3]
        ((repeat' (first | (apply WL.opN; exact yF; dsimp only [setD, z0, z1]) | refine WL.nil ?_ | refine WC.seqK fun Kx hK => ?_ | (refine hK _ _ ?_; clear hK) | refine WC.region ?_ | (apply WL.opN; (focus ((first | (refine SY.orN (a := m) (b := bl[k]) (by omega) (by omega) (OpD.t rfl) (OpD.t rfl)) | (refine SY.ixB elI (OpD.t rfl) (OpD.t rfl) hk) | (refine SY.shrN (a := bl[k]) (b := i) (by omega) (OpD.t rfl) (OpD.t rfl)) | (refine SY.bit1 (m := bl[k]) (i := i) (by omega) (OpD.t rfl)) | ((first | apply SY.move | apply SY.assign | apply SY.lss | apply SY.eql | apply SY.and | apply SY.or) <;> (exact oD)) | (apply SY.len; (exact oD); (exact nD); (exact uD)) | fail); all_goals infer_instance)); dsimp only [setD, z0, z1]) | (apply WC.condD; (exact oD); all_goals (intro h; try exact xD)) | refine WC.skip ?_ | refine WC.ret ?_ | refine WC.block ?_ | refine ThenD.r ?_ | refine InBlockD.r ?_)); all_goals (first | ((repeat clear hK); (repeat clear Kx))))
        all_goals try (exfalso; first | contradiction | omega)
        all_goals (refine ⟨trivial, _, rfl, ?_⟩; exact fD)
      | false =>
        rw [if_neg (by simp [hbit])] at h3
        have hcond : ¬ ((((bl[k] >>> i) &&& 1 : Nat) : Int) = 1) := fun q => by rw [bitB_iff.1 q] at hbit; cases hbit
        ((repeat' (first | (apply WL.opN; exact yF; dsimp only [setD, z0, z1]) | refine WL.nil ?_ | refine WC.seqK fun Kx hK => ?_ | (refine hK _ _ ?_; clear hK) | refine WC.region ?_ | (apply WL.opN; (focus ((first | (refine SY.orN (a := m) (b := bl[k]) (by omega) (by omega) (OpD.t rfl) (OpD.t rfl)) | (refine SY.ixB elI (OpD.t rfl) (OpD.t rfl) hk) | (refine SY.shrN (a := bl[k]) (b := i) (by omega) (OpD.t rfl) (OpD.t rfl)) | (refine SY.bit1 (m := bl[k]) (i := i) (by omega) (OpD.t rfl)) | ((first | apply SY.move | apply SY.assign | apply SY.lss | apply SY.eql | apply SY.and | apply SY.or) <;> (exact oD)) | ((first | apply SY.add) <;> first | exact oD | omega) | (apply SY.len; (exact oD); (exact nD); (exact uD)) | fail); all_goals infer_instance)); dsimp only [setD, z0, z1]) | (apply WC.condD; (exact oD); all_goals (intro h; try exact xD)) | refine WC.skip ?_ | refine WC.block ?_ | refine ThenD.n ?_)); all_goals (first | ((repeat clear hK); (repeat clear Kx))))
        all_goals try (exfalso; first | contradiction | omega)
        (refine ⟨(k + 1, m ||| bl[k]), ?_, by first | omega | (simp only; omega), rfl, ?_⟩; rotate_left; ((try dsimp only [upds, z0, z1]); repeat (first | exact LeF.nil | refine LeF.co (k := ?_))); (try dsimp only))
        exact ⟨by omega, hor, h3⟩
    · have hk : ¬ k < bl.length := by rw [intsB_len] at hkm; exact hkm
      rw [List.drop_of_length_le (by omega)] at h3
      have h3' : m = snapB bl i 0 := h3
      ((repeat' (first | (apply WL.opN; exact yF; dsimp only [setD, z0, z1]) | refine WL.nil ?_ | refine WC.seqK fun Kx hK => ?_ | (refine hK _ _ ?_; clear hK) | (refine Kont.skip ?_; clear hK) | refine WC.region ?_ | (apply WL.opN; (focus ((first | ((first | apply SY.move | apply SY.assign | apply SY.lss | apply SY.eql | apply SY.and | apply SY.or) <;> (exact oD)) | (apply SY.len; (exact oD); (exact nD); (exact uD)) | fail); all_goals infer_instance)); dsimp only [setD, z0, z1]) | (apply WC.condD; (exact oD); all_goals (intro h; try exact xD)) | refine WC.ret ?_ | refine WC.exit ?_)); all_goals (first | ((repeat clear hK); (repeat clear Kx))))
      all_goals try (exfalso; first | contradiction | omega)
      all_goals (refine ⟨trivial, _, rfl, ?_⟩; refine FinD.i ?_)
      all_goals rw [h3']
theorem placeB_get' {s : List Vx} {bl : List Nat} {i : Nat} (h : i < (placeB s bl).length) (h' : i < s.length) : (placeB s bl)[i] = (s[i].1, ((snapB bl i 0 : Nat) : Int)) := by simp [placeB]
set_option maxHeartbeats 4000000 in
theorem place29_c (s : List Vx) (bl : List Nat) (hs : s.length ≤ 60) (hb : ∀ b ∈ bl, b < 1048576) : Fn Tryz.prog 68 [dS Verts s, dS Ints (intsB bl)] (dS Verts (placeB s bl)) := by
  (refine Fn.intro1 Tryz.func68 rfl rfl ?_; simp only [Tryz.ntmps68, List.length_cons, List.length_nil, Nat.reduceAdd, Nat.reduceSub, List.replicate_succ, List.replicate_zero, List.cons_append, List.nil_append])
  (repeat' (first | ((first | apply WL.opN | apply WD.opN); exact yF; dsimp only [setD, z0, z1]) | refine WL.nil ?_ | refine WC.seqK fun Kx hK => ?_ | (refine hK _ _ ?_; clear hK) | refine WC.region ?_ | refine WC.block ?_))
  refine WC.nilRowK 52 2 (by decide) RV ?_
  (refine WC.loopU (X := Nat × Value) (fun x => [(5, dX x.2), (6, dI (x.1 : Int)), (7, dA), (8, dA), (9, dA), (10, dA), (11, dA), (12, dA), (13, dA), (14, dA), (15, dA), (16, dA), (17, dA), (18, dA), (19, dA), (20, dA), (21, dA), (22, dA), (23, dA), (24, dA)]) (fun x => [hRowK x.2 52 2 RV ((placeB s bl).take x.1)]) (fun x => s.length - x.1) (fun x => x.1 ≤ s.length) (0, .slice none 0 0) ?start ?frame0 ?objs0 ?round)
  case start => simp
  case frame0 => ((try dsimp only [upds, z0, z1]); repeat (first | exact LeF.nil | refine LeF.co (k := ?_)))
  case objs0 => rfl
  case round =>
    rintro ⟨k, u⟩ h1
    dsimp only [upds, z0, z1]
    simp only at h1
    have h2 : ((placeB s bl).take k).length ≤ 1000 := by rw [List.length_take]; omega
    by_cases hk : k < s.length
    · have hkl : k < (placeB s bl).length := by rw [placeB_len]; exact hk
      have c1 := snapshot29_c bl k hb (by omega)
      ((repeat' (first |  (apply WC.drawTail 11; kernel_rfl; kernel_rfl; simp only [List.take_succ_cons, List.take_zero, List.drop_succ_cons, List.drop_zero]) | ((first | apply WL.opN | apply WD.opN); exact yF; dsimp only [setD, z0, z1]) | refine WL.nil ?_ | refine WD.nil ?_ | refine WC.seqK fun Kx hK => ?_ | (refine hK _ _ ?_; clear hK) | refine WC.region ?_ | ((first | apply WL.appK | apply WL.app1); (exact eD); exact OpD.t rfl; (exact oD); decide; (exact lD); (intro _; dsimp only [setD, z0, z1]); all_goals (try infer_instance)) | ((first | apply WL.opN | apply WD.opN); (focus ((first | (apply SY.call (c1) Tryz.call118; (exact aD)) | ((first | apply SY.move | apply SY.assign | apply SY.lss) <;> (exact oD)) | ((first | apply SY.add) <;> first | exact oD | omega) | (apply SY.len; (exact oD); (exact nD); (exact uD)) | (apply SY.ixK; (exact eD); (exact oD); (exact oD); exact kD) | (first | (apply SY.fld0 vxT <;> (exact oD)) | (apply SY.fld1 vxT <;> (exact oD)) | (apply SY.mkV0 vxT <;> (exact oD)) | (apply SY.mkV1 vxT <;> (exact oD)) | (apply SY.mkV vxT <;> (exact oD))) | (apply SY.buildE; (exact eD); ((try simp only [List.map_cons, List.map_nil]); (repeat (first | exact ElsD.nl | (apply ElsD.cn; (first | exact OpD.t rfl | exact OpD.i | exact OpD.b | exact OpD.tle rfl (by first | exact Dat.le_nil | exact Dat.le_nilK (by decide)) | exact ⟨Dat.le_nil⟩ | exact ⟨Dat.le_nilK (by decide)⟩))))); rfl; rfl; decide; (intro _; exact shape_V); (exact (by simp))) | fail); all_goals infer_instance)); dsimp only [setD, z0, z1]) | (apply WC.condD; (exact oD); all_goals (intro h; try exact xD)) | refine WC.skip ?_ | refine WC.block ?_ | refine ThenD.n ?_)); all_goals (first | ((repeat clear hK); (repeat clear Kx))))
      all_goals try (exfalso; first | contradiction | omega)
      (refine ⟨(k + 1, _) , ?_, by first | omega | (simp only; omega), by ((try simp only);  (rw [List.take_succ_eq_append_getElem hkl, placeB_get' hkl hk])), ?_⟩; rotate_left; ((try dsimp only [upds, z0, z1]); repeat (first | exact LeF.nil | refine LeF.co (k := ?_))); (try dsimp only))
      omega
    · ((repeat' (first | ((first | apply WL.opN | apply WD.opN); exact yF; dsimp only [setD, z0, z1]) | refine WL.nil ?_ | refine WC.seqK fun Kx hK => ?_ | (refine hK _ _ ?_; clear hK) | (refine Kont.skip ?_; clear hK) | refine WC.region ?_ | ((first | apply WL.opN | apply WD.opN); (focus ((first | ((first | apply SY.move | apply SY.assign | apply SY.lss) <;> (exact oD)) | (apply SY.len; (exact oD); (exact nD); (exact uD)) | fail); all_goals infer_instance)); dsimp only [setD, z0, z1]) | (apply WC.condD; (exact oD); all_goals (intro h; try exact xD)) | refine WC.ret ?_ | refine WC.exit ?_)); all_goals (first | ((repeat clear hK); (repeat clear Kx))))
      all_goals try (exfalso; first | contradiction | omega)
      (refine ⟨trivial, _, rfl, ?_⟩; refine FinD.rowKE (.head _) ?_)
      rw [List.take_of_length_le (by rw [placeB_len]; omega)]
set_option maxHeartbeats 4000000 in
theorem at29_c (s : List Vx) (m : Nat) (hs : s.length ≤ 60) (hm : m < 1048576) : Fn Tryz.prog 28 [dS Verts s, dI (m : Int)] (dS Verts (atB s m)) := by
  (refine Fn.intro1 Tryz.func28 rfl rfl ?_; simp only [Tryz.ntmps28, List.length_cons, List.length_nil, Nat.reduceAdd, Nat.reduceSub, List.replicate_succ, List.replicate_zero, List.cons_append, List.nil_append])
  (repeat' (first | (apply WL.opN; exact yF; dsimp only [setD, z0, z1]) | refine WL.nil ?_ | refine WC.seqK fun Kx hK => ?_ | (refine hK _ _ ?_; clear hK) | refine WC.region ?_ | refine WC.block ?_))
  refine WC.nilRowK 52 2 (by decide) RV ?_
  (refine WC.loopU (X := Nat × Value) (fun x => [(5, dX x.2), (6, dI (x.1 : Int)), (7, dA), (8, dA), (9, dA), (10, dA), (11, dA), (12, dA), (13, dA), (14, dA), (15, dA), (16, dA), (17, dA), (18, dA), (19, dA), (20, dA), (21, dA), (22, dA), (23, dA), (24, dA)]) (fun x => [hRowK x.2 52 2 RV (atB (s.take x.1) m)]) (fun x => s.length - x.1) (fun x => x.1 ≤ s.length) (0, .slice none 0 0) ?start ?frame0 ?objs0 ?round)
  case start => simp
  case frame0 => ((try dsimp only [upds, z0, z1]); repeat (first | exact LeF.nil | refine LeF.co (k := ?_)))
  case objs0 => rfl
  case round =>
    rintro ⟨k, u⟩ h1
    dsimp only [upds, z0, z1]
    simp only at h1
    have h2 : (atB (s.take k) m).length ≤ 1000 := by
      have := atB_len (s.take k) m
      rw [List.length_take] at this
      omega
    by_cases hk : k < s.length
    · cases hb : bitB m k with
      | true =>
        have hcond := bitB_iff.2 hb
        ((repeat' (first | (apply WL.opN; exact yF; dsimp only [setD, z0, z1]) | refine WL.nil ?_ | refine WC.seqK fun Kx hK => ?_ | (refine hK _ _ ?_; clear hK) | refine WC.region ?_ | ((first | apply WL.pushK | apply WL.push1); (exact eD); exact OpD.t rfl; (exact oD); (intro _; exact hD); (exact (by simp)); (exact (by simp)); (first | exact ⟨by decide, by decide⟩ | skip); decide; (exact lD); (intro _; dsimp only [setD, z0, z1]); all_goals (try infer_instance)) | (apply WL.opN; (focus ((first | (refine SY.shrN (a := m) (b := k) (by omega) (OpD.t rfl) (OpD.t rfl)) | (refine SY.bit1 (m := m) (i := k) (by omega) (OpD.t rfl)) | ((first | apply SY.move | apply SY.assign | apply SY.lss | apply SY.eql | apply SY.and) <;> (exact oD)) | ((first | apply SY.add) <;> first | exact oD | omega) | (apply SY.len; (exact oD); (exact nD); (exact uD)) | (apply SY.ixK; (exact eD); (exact oD); (exact oD); exact kD) | fail); all_goals infer_instance)); dsimp only [setD, z0, z1]) | (apply WC.condD; (exact oD); all_goals (intro h; try exact xD)) | refine WC.skip ?_ | refine WC.block ?_ | refine ThenD.n ?_)); all_goals (first | ((repeat clear hK); (repeat clear Kx))))
        all_goals try (exfalso; first | contradiction | omega)
        (refine ⟨(k + 1, _) , ?_, by first | omega | (simp only; omega), by ((try simp only);  (rw [atB_snoc hk, if_pos hb])), ?_⟩; rotate_left; ((try dsimp only [upds, z0, z1]); repeat (first | exact LeF.nil | refine LeF.co (k := ?_))); (try dsimp only))
        omega
      | false =>
        have hcond : ¬ ((((m >>> k) &&& 1 : Nat) : Int) = 1) := fun q => by rw [bitB_iff.1 q] at hb; cases hb
        ((repeat' (first | (apply WL.opN; exact yF; dsimp only [setD, z0, z1]) | refine WL.nil ?_ | refine WC.seqK fun Kx hK => ?_ | (refine hK _ _ ?_; clear hK) | refine WC.region ?_ | (apply WL.opN; (focus ((first | (refine SY.shrN (a := m) (b := k) (by omega) (OpD.t rfl) (OpD.t rfl)) | (refine SY.bit1 (m := m) (i := k) (by omega) (OpD.t rfl)) | ((first | apply SY.move | apply SY.assign | apply SY.lss | apply SY.eql | apply SY.and) <;> (exact oD)) | ((first | apply SY.add) <;> first | exact oD | omega) | (apply SY.len; (exact oD); (exact nD); (exact uD)) | fail); all_goals infer_instance)); dsimp only [setD, z0, z1]) | (apply WC.condD; (exact oD); all_goals (intro h; try exact xD)) | refine WC.skip ?_ | refine WC.block ?_ | refine ThenD.n ?_)); all_goals (first | ((repeat clear hK); (repeat clear Kx))))
        all_goals try (exfalso; first | contradiction | omega)
        (refine ⟨(k + 1, _) , ?_, by first | omega | (simp only; omega), by ((try simp only);  (rw [atB_snoc hk, if_neg (by simp [hb]), List.append_nil])), ?_⟩; rotate_left; ((try dsimp only [upds, z0, z1]); repeat (first | exact LeF.nil | refine LeF.co (k := ?_))); (try dsimp only))
        omega
    · ((repeat' (first | (apply WL.opN; exact yF; dsimp only [setD, z0, z1]) | refine WL.nil ?_ | refine WC.seqK fun Kx hK => ?_ | (refine hK _ _ ?_; clear hK) | (refine Kont.skip ?_; clear hK) | refine WC.region ?_ | (apply WL.opN; (focus ((first | ((first | apply SY.move | apply SY.assign | apply SY.lss | apply SY.eql | apply SY.and) <;> (exact oD)) | (apply SY.len; (exact oD); (exact nD); (exact uD)) | fail); all_goals infer_instance)); dsimp only [setD, z0, z1]) | (apply WC.condD; (exact oD); all_goals (intro h; try exact xD)) | refine WC.ret ?_ | refine WC.exit ?_)); all_goals (first | ((repeat clear hK); (repeat clear Kx))))
      all_goals try (exfalso; first | contradiction | omega)
      (refine ⟨trivial, _, rfl, ?_⟩; refine FinD.rowKE (.head _) ?_)
      rw [List.take_of_length_le (by omega)]
theorem divN_lt' {n : Nat} {bl : List Nat} {all : Nat} (h : divN n bl all) : ∀ b ∈ bl, b < 2 ^ n := divN_lt bl all h
theorem facetR_c (s : List Vx) (l : List Int) : Fn Tryz.prog 17 [dS Verts s, dS Ints l] (dT [dS Verts (facetR s l).1, dI (facetR s l).2]) := by
  have c1 := chk_c s
  have c2 := diff_c s
  by_cases h0 : chkV s ≠ 0
  · rw [show facetR s l = ([], chkV s) from if_pos h0]
    (refine Fn.intro2 Tryz.func17 rfl rfl ?_; simp only [Tryz.ntmps17, List.length_cons, List.length_nil, Nat.reduceAdd, Nat.reduceSub, List.replicate_succ, List.replicate_zero, List.cons_append, List.nil_append])
    ((repeat' (first | (apply WL.opN; exact yF; dsimp only [setD, z0, z1]) | refine WL.nil ?_ | refine WC.seqK fun Kx hK => ?_ | (refine hK _ _ ?_; clear hK) | refine WC.region ?_ | (apply WL.opN; (focus ((first | (apply SY.call (c1) Tryz.call12; (exact aD)) | ((first | apply SY.move | apply SY.assign | apply SY.neq | apply SY.not) <;> (exact oD)) | fail); all_goals infer_instance)); dsimp only [setD, z0, z1]) | (apply WC.condN; (exact oD); all_goals (intro h; try exact xD)) | refine WC.ret ?_ | refine ThenD.r ?_)); all_goals (first | ((repeat clear hK); (repeat clear Kx))))
    all_goals try (exfalso; first | contradiction | omega)
    all_goals (refine ⟨trivial, ⟨_, rfl, ?_⟩, _, rfl, ?_⟩ <;> exact fD)
  · by_cases h1 : diffV s = false
    · rw [show facetR s l = ([], 3) by unfold facetR; rw [if_neg h0, if_pos h1]]
      rw [h1] at c2
      (refine Fn.intro2 Tryz.func17 rfl rfl ?_; simp only [Tryz.ntmps17, List.length_cons, List.length_nil, Nat.reduceAdd, Nat.reduceSub, List.replicate_succ, List.replicate_zero, List.cons_append, List.nil_append])
      ((repeat' (first | (apply WL.opN; exact yF; dsimp only [setD, z0, z1]) | refine WL.nil ?_ | refine WC.seqK fun Kx hK => ?_ | (refine hK _ _ ?_; clear hK) | refine WC.region ?_ | (apply WL.opN; (focus ((first | (apply SY.call (c1) Tryz.call12; (exact aD)) | (apply SY.call (c2) Tryz.call66; (exact aD)) | ((first | apply SY.move | apply SY.assign | apply SY.neq | apply SY.not) <;> (exact oD)) | fail); all_goals infer_instance)); dsimp only [setD, z0, z1]) | (apply WC.condN; (exact oD); all_goals (intro h; try exact xD)) | (apply WC.condNB; (exact oD); all_goals (intro h; try exact xD)) | refine WC.skip ?_ | refine WC.ret ?_ | refine WC.block ?_ | refine ThenD.r ?_ | refine InBlockD.r ?_)); all_goals (first | ((repeat clear hK); (repeat clear Kx))))
      all_goals try (exfalso; first | contradiction | omega)
      all_goals (refine ⟨trivial, ⟨_, rfl, ?_⟩, _, rfl, ?_⟩ <;> exact fD)
    · have h8 := (chkV_zero.1 (Classical.byContradiction h0)).2.1
      have c3 := divides29_c l s.length h8
      have c2' : Fn Tryz.prog 66 [dS Verts s] (dB true) := by rw [show diffV s = true by simpa using h1] at c2; exact c2
      by_cases h2 : divR l s.length 0 = false
      · rw [show facetR s l = ([], 15) by unfold facetR; rw [if_neg h0, if_neg h1, if_pos h2]]
        rw [h2] at c3
        (refine Fn.intro2 Tryz.func17 rfl rfl ?_; simp only [Tryz.ntmps17, List.length_cons, List.length_nil, Nat.reduceAdd, Nat.reduceSub, List.replicate_succ, List.replicate_zero, List.cons_append, List.nil_append])
        ((repeat' (first | (apply WL.opN; exact yF; dsimp only [setD, z0, z1]) | refine WL.nil ?_ | refine WC.seqK fun Kx hK => ?_ | (refine hK _ _ ?_; clear hK) | refine WC.region ?_ | (apply WL.opN; (focus ((first | (apply SY.call (c1) Tryz.call12; (exact aD)) | (apply SY.call (c2') Tryz.call66; (exact aD)) | (apply SY.call (c3) Tryz.call67; (exact aD)) | ((first | apply SY.move | apply SY.assign | apply SY.neq | apply SY.not) <;> (exact oD)) | (apply SY.len; (exact oD); (exact nD); (exact uD)) | fail); all_goals infer_instance)); dsimp only [setD, z0, z1]) | (apply WC.condN; (exact oD); all_goals (intro h; try exact xD)) | (apply WC.condNB; (exact oD); all_goals (intro h; try exact xD)) | refine WC.skip ?_ | refine WC.ret ?_ | refine WC.block ?_ | refine ThenD.r ?_ | refine InBlockD.r ?_)); all_goals (first | ((repeat clear hK); (repeat clear Kx))))
        all_goals try (exfalso; first | contradiction | omega)
        all_goals (refine ⟨trivial, ⟨_, rfl, ?_⟩, _, rfl, ?_⟩ <;> exact fD)
      · rw [show facetR s l = (placeB s (natsB l), 0) by unfold facetR; rw [if_neg h0, if_neg h1, if_neg h2]]
        have h2' : divR l s.length 0 = true := by simpa using h2
        rw [h2'] at c3
        obtain ⟨bl, rfl, hn⟩ := div_N (n := s.length) (by omega) l 0 (Nat.two_pow_pos _) h2'
        have hp : 2 ^ s.length ≤ 256 := Nat.pow_le_pow_right (n := 2) (by decide) h8
        have c4 := place29_c s bl (by omega) fun b hb => by have := divN_lt' hn b hb; omega
        rw [nats_cast]
        (refine Fn.intro2 Tryz.func17 rfl rfl ?_; simp only [Tryz.ntmps17, List.length_cons, List.length_nil, Nat.reduceAdd, Nat.reduceSub, List.replicate_succ, List.replicate_zero, List.cons_append, List.nil_append])
        ((repeat' (first | (apply WL.opN; exact yF; dsimp only [setD, z0, z1]) | refine WL.nil ?_ | refine WC.seqK fun Kx hK => ?_ | (refine hK _ _ ?_; clear hK) | refine WC.region ?_ | (apply WL.opN; (focus ((first | (apply SY.call (c1) Tryz.call12; (exact aD)) | (apply SY.call (c2') Tryz.call66; (exact aD)) | (apply SY.call (c3) Tryz.call67; (exact aD)) | (apply SY.call (c4) Tryz.call68; (exact aD)) | ((first | apply SY.move | apply SY.assign | apply SY.neq | apply SY.not) <;> (exact oD)) | (apply SY.len; (exact oD); (exact nD); (exact uD)) | fail); all_goals infer_instance)); dsimp only [setD, z0, z1]) | (apply WC.condN; (exact oD); all_goals (intro h; try exact xD)) | (apply WC.condNB; (exact oD); all_goals (intro h; try exact xD)) | refine WC.skip ?_ | refine WC.ret ?_ | refine WC.block ?_)); all_goals (first | ((repeat clear hK); (repeat clear Kx))))
        all_goals try (exfalso; first | contradiction | omega)
        all_goals (refine ⟨trivial, ⟨_, rfl, ?_⟩, _, rfl, ?_⟩ <;> exact fD)
theorem same29_c (F : Cx) (V : List Vx) (C : Cx) : Fn Tryz.prog 22 [dS SubR (F, V, C), dS SubR (F, V, C)] (dB true) := by
  have c1 : Fn Tryz.prog 50 [dS Cpx F, dS Cpx F] (dB true) := by
    have := sameC_c F F
    rwa [decide_eq_true rfl] at this
  have c2 : Fn Tryz.prog 21 [dS Verts V, dS Verts V] (dB true) := by
    have := same_c V V
    rwa [decide_eq_true (cmpL_eq.2 rfl)] at this
  have c3 : Fn Tryz.prog 59 [dS Simps C, dS Simps C] (dB true) := by
    have := sameAll_c C C
    rwa [decide_eq_true rfl] at this
  (refine Fn.intro1 Tryz.func22 rfl rfl ?_; simp only [Tryz.ntmps22, List.length_cons, List.length_nil, Nat.reduceAdd, Nat.reduceSub, List.replicate_succ, List.replicate_zero, List.cons_append, List.nil_append])
  ((repeat' (first | (apply WL.opN; exact yF; dsimp only [setD, z0, z1]) | refine WL.nil ?_ | refine WC.seqK fun Kx hK => ?_ | (refine hK _ _ ?_; clear hK) | refine WC.region ?_ | (apply WL.opG; (focus (first | exact wN | (apply SYG.yes; (exact wY); ((first | (exact SY.box (OpD.t rfl) shape_R3) | (exact SY.fldA strSb (OpD.t rfl) R3_agg rfl rfl) | (exact SY.loadCx' tyC (OpD.t rfl)) | (apply SY.call (c1) Tryz.call50; (exact aD)) | (apply SY.call (c2) Tryz.call21; (exact aD)) | (apply SY.call (c3) Tryz.call59; (exact aD)) | (apply SY.load; (exact tD); (exact oD)) | (apply SY.pickT; (exact oD); (with_reducible rfl); (exact oD)) | fail); all_goals infer_instance)))); dsimp only [setD, z0, z1]) | refine WC.ret ?_)); all_goals (first | ((repeat clear hK); (repeat clear Kx))))
  all_goals (refine ⟨trivial, _, rfl, ?_⟩; exact fD)
end Go.Proofs.YtgppfikidagfpaaGreatDoor
