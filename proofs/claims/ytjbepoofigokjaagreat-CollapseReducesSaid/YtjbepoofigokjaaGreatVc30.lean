/-
  Part 30 of the texts that the claims of this seat lean on: walks of the program's functions by contracts over symbolic frames, and plain laws of what they compute. No condition.
-/
import Derived.Test.YtjbepoofigokjaaGreatVc16
import Derived.Test.YtjbepoofigokjaaGreatVc28
import Derived.Test.YtjbepoofigokjaaGreatVc29
set_option linter.unusedVariables false
set_option linter.unusedSimpArgs false
set_option linter.unusedSectionVars false
namespace Go.Proofs.YtjbepoofigokjaaGreat
open Go.RowKit
set_option linter.unusedSimpArgs false

set_option maxHeartbeats 2000000
set_option maxRecDepth 100000
set_option linter.unusedVariables false
theorem shut_vac {l : Cx} {i : Nat} {o : List Int} {j k : Nat} (h : ∀ h' : j < o.length, 0 ≤ o[j]) : Shut l i o j k := fun h1 h2 h3 h4 h5 _ => by have := h h3; omega
theorem shut_neq {l : Cx} {i : Nat} {o : List Int} {j k : Nat} (h : ∀ h' : k < o.length, o[k] ≠ (nextN l i : Int)) : Shut l i o j k := fun h1 h2 h3 h4 _ h6 => absurd h6 (h h4)
theorem shut_not {l : Cx} {i : Nat} {o : List Int} {j k : Nat} (hj : j < l.length) (hk : k < l.length) (h : (sharedV l[j] l[k] true).length = 0) : Shut l i o j k := fun h1 h2 h3 h4 _ _ => by unfold shareB; rw [h]; rfl
set_option maxHeartbeats 16000000 in
theorem parts_c (l : Cx) (hg : ∀ s ∈ l, 0 < s.length ∧ s.length ≤ 8) (hl : l.length ≤ 100000) : Fn Tryz.prog 100 [dS Cpx l] (dS Ints (compC l)) := by
  (refine Fn.intro1 Tryz.func100 rfl rfl ?_; simp only [Tryz.ntmps100, List.length_cons, List.length_nil, Nat.reduceAdd, Nat.reduceSub, List.replicate_succ, List.replicate_zero, List.cons_append, List.nil_append])
  (repeat' (first | ((first | apply WL.opN | apply WD.opN); exact yF; dsimp only [setD, z0, z1]) | refine WL.nil ?_ | refine WC.seqK fun Kx hK => ?_ | (refine hK _ _ ?_; clear hK) | refine WC.region ?_ |  (refine WL.makeI elI (OpD.t rfl) (OpD.t rfl) rfl (by omega) (by omega) fun v => ?_; dsimp only [setD, z0, z1]) | ((first | apply WL.opG | apply WD.op); (focus (first | exact wN | (apply SYG.yes; (exact wY); ((first | (apply SY.len; (exact oD); (exact nD); (exact uD)) | (apply SY.fldC cpxT; exact OpD.t rfl) | (apply SY.box; (exact oD); (exact hD)) | fail); all_goals infer_instance)))); dsimp only [setD, z0, z1]) | refine WC.block ?_))
  (refine WC.loopU (X := Nat × List Int) (fun x => [(4, dI (x.1 : Int)), (14, dA), (15, dA), (16, dA), (17, dA), (18, dA), (19, dA), (20, dA), (21, dA), (22, dA)]) (fun x => [hRow v 3 RI x.2]) (fun x => l.length - x.1) (fun x => x.1 ≤ l.length ∧ x.2.length = l.length ∧ ∀ t (h : t < x.2.length), t < x.1 → x.2[t] = -1) (0, List.replicate l.length 0) ?start ?frame0 ?objs0 ?round)
  case start => exact ⟨Nat.zero_le _, by simp, fun t _ h => by omega⟩
  case frame0 => ((try dsimp only [upds, z0, z1]); repeat (first | exact LeF.nil | refine LeF.co (k := ?_)))
  case objs0 => rfl
  case round =>
    rintro ⟨k, o⟩ ⟨h1, h2, h3⟩
    simp only at h1 h2 h3
    dsimp only [upds, z0, z1]
    by_cases hk : k < l.length
    · have hko : k < o.length := by omega
      ((repeat' (first | ((first | apply WL.opN | apply WD.opN); exact yF; dsimp only [setD, z0, z1]) | refine WL.nil ?_ | refine WC.seqK fun Kx hK => ?_ | (refine hK _ _ ?_; clear hK) | refine WC.region ?_ |  (apply WL.storeR; exact tyI; exact OpD.t rfl; exact OpD.i; exact shape_I; omega; dsimp only [setD, z0, z1]) | ((first | apply WL.opG | apply WD.op); (focus (first | exact wN | (apply SYG.yes; (exact wY); ((first | (apply SY.ixR; exact elI; exact OpD.t rfl; exact .head _; exact OpD.t rfl; rfl; omega) | ((first | apply SY.move | apply SY.assign | apply SY.lss | apply SY.gtr | apply SY.geq | apply SY.eql) <;> (exact oD)) | ((first | apply SY.add) <;> first | exact oD | omega) | (apply SY.lenR; exact OpD.t rfl; (first | exact .head _ | exact .tail _ (.head _)); (exact uD)) | fail); all_goals infer_instance)))); dsimp only [setD, z0, z1]) | (apply WC.condD; (exact oD); all_goals (intro h; try exact xD)) | refine WC.skip ?_ | refine WC.block ?_ | refine ThenD.n ?_)); all_goals (first | ((repeat clear hK); (repeat clear Kx))))
      (refine ⟨(k + 1, o.set k (-1)), ?_, by first | omega | (simp only; omega), rfl, ?_⟩; rotate_left; ((try dsimp only [upds, z0, z1]); repeat (first | exact LeF.nil | refine LeF.co (k := ?_))); (try dsimp only))
      refine ⟨by omega, by rw [List.length_set]; exact h2, fun t ht hlt => ?_⟩
      rw [List.getElem_set]
      by_cases hkt : k = t
      · rw [if_pos hkt]
      · rw [if_neg hkt]; exact h3 t _ (by omega)
    · have ho : o = outN l 0 := by
        rw [outN_zero, List.eq_replicate_iff]
        refine ⟨h2, fun b hb => ?_⟩
        obtain ⟨t, ht, rfl⟩ := List.getElem_of_mem hb
        exact h3 t ht (by omega)
      subst ho
      (repeat' (first | ((first | apply WL.opN | apply WD.opN); exact yF; dsimp only [setD, z0, z1]) | refine WL.nil ?_ | refine WC.seqK fun Kx hK => ?_ | (refine hK _ _ ?_; clear hK) | (refine Kont.skip ?_; clear hK) | refine WC.region ?_ | ((first | apply WL.opG | apply WD.op); (focus (first | exact wN | (apply SYG.yes; (exact wY); ((first | ((first | apply SY.move | apply SY.assign | apply SY.lss | apply SY.gtr | apply SY.geq | apply SY.eql) <;> (exact oD)) | (apply SY.lenR; exact OpD.t rfl; (first | exact .head _ | exact .tail _ (.head _)); (exact uD)) | fail); all_goals infer_instance)))); dsimp only [setD, z0, z1]) | (apply WC.condD; (exact oD); all_goals (intro h; try exact xD)) | refine WC.exit ?_ | refine WC.block ?_))
      (refine WC.loopU (X := Nat) (fun i => [(6, dI (i : Int)), (5, dI (nextN l i : Int)), (7, dA), (8, dA), (9, dA), (23, dA), (24, dA), (25, dA), (26, dA), (27, dA), (28, dA), (29, dA), (30, dA), (31, dA), (32, dA), (33, dA), (34, dA), (35, dA), (36, dA), (37, dA), (38, dA), (39, dA), (40, dA), (41, dA), (42, dA), (43, dA), (44, dA), (45, dA), (46, dA), (47, dA), (48, dA), (49, dA), (50, dA), (51, dA), (52, dA), (53, dA), (54, dA), (55, dA), (56, dA), (57, dA), (58, dA), (59, dA), (60, dA), (61, dA), (62, dA), (63, dA), (64, dA), (65, dA), (66, dA), (67, dA), (68, dA), (69, dA), (70, dA), (71, dA), (72, dA), (73, dA), (74, dA), (75, dA), (76, dA), (77, dA), (78, dA), (79, dA), (80, dA), (81, dA), (82, dA), (83, dA), (84, dA)]) (fun i => [hRow v 3 RI (outN l i)]) (fun i => l.length - i) (fun i => i ≤ l.length) 0 ?start ?frame0 ?objs0 ?round)
      case start => exact Nat.zero_le _
      case frame0 => ((try dsimp only [upds, z0, z1]); repeat (first | exact LeF.nil | refine LeF.co (k := ?_)))
      case objs0 => rfl
      case round =>
        rintro i g1
        dsimp only [upds, z0, z1]
        have hol := outN_len l i
        have hni : nextN l i ≤ l.length := by
          unfold nextN
          refine Nat.le_trans (dist_len _) ?_
          rw [List.length_take]; unfold rootsC; rw [List.length_map]; omega
        by_cases hi : i < l.length
        · have hio : i < (outN l i).length := by omega
          by_cases h0 : 0 ≤ (outN l i)[i]
          · obtain ⟨e1, e2⟩ := outN_skip hi hio h0
            ((repeat' (first | ((first | apply WL.opN | apply WD.opN); exact yF; dsimp only [setD, z0, z1]) | refine WL.nil ?_ | refine WC.seqK fun Kx hK => ?_ | (refine hK _ _ ?_; clear hK) | (refine Kont.skip ?_; clear hK) | refine WC.region ?_ | ((first | apply WL.opG | apply WD.op); (focus (first | exact wN | (apply SYG.yes; (exact wY); ((first | (apply SY.ixR; exact elI; exact OpD.t rfl; exact .head _; exact OpD.t rfl; rfl; omega) | (apply SY.loadR; exact tyI; exact OpD.t rfl; exact .head _; omega) | ((first | apply SY.move | apply SY.assign | apply SY.lss | apply SY.gtr | apply SY.geq | apply SY.eql) <;> (exact oD)) | ((first | apply SY.add) <;> first | exact oD | omega) | (apply SY.lenR; exact OpD.t rfl; (first | exact .head _ | exact .tail _ (.head _)); (exact uD)) | fail); all_goals infer_instance)))); dsimp only [setD, z0, z1]) | (apply WC.condD; (exact oD); all_goals (intro h; try exact xD)) | refine WC.skip ?_ | refine WC.exit ?_ | refine WC.block ?_ | refine ThenD.n ?_)); all_goals (first | ((repeat clear hK); (repeat clear Kx))))
            all_goals first
              | (exfalso; omega)
              | ((refine ⟨i + 1 , ?_, by first | omega | (simp only; omega), by ((try simp only);  rw [e1]), ?_⟩; rotate_left; ((try dsimp only [upds, z0, z1]); repeat (first | exact LeF.nil | refine LeF.co (k := ?_))); (try dsimp only)); omega)
          · obtain ⟨n1, n2, n3⟩ := outN_new hi hio (by omega)
            have hM0 := Mid.start hi
            (repeat' (first | ((first | apply WL.opN | apply WD.opN); exact yF; dsimp only [setD, z0, z1]) | refine WL.nil ?_ | refine WC.seqK fun Kx hK => ?_ | (refine hK _ _ ?_; clear hK) | refine WC.region ?_ |  (apply WL.storeR; exact tyI; exact OpD.t rfl; exact OpD.t rfl; exact shape_I; omega; dsimp only [setD, z0, z1]) | ((first | apply WL.opG | apply WD.op); (focus (first | exact wN | (apply SYG.yes; (exact wY); ((first | (apply SY.ixR; exact elI; exact OpD.t rfl; exact .head _; exact OpD.t rfl; rfl; omega) | (apply SY.loadR; exact tyI; exact OpD.t rfl; exact .head _; omega) | ((first | apply SY.move | apply SY.assign | apply SY.lss | apply SY.gtr | apply SY.geq | apply SY.eql) <;> (exact oD)) | (apply SY.lenR; exact OpD.t rfl; (first | exact .head _ | exact .tail _ (.head _)); (exact uD)) | fail); all_goals infer_instance)))); dsimp only [setD, z0, z1]) | (apply WC.condD; (exact oD); all_goals (intro h; try exact xD)) | refine WC.skip ?_ | refine WC.block ?_))
            generalize (outN l i).set i (nextN l i : Int) = o0 at *
            (refine WC.loopU (X := Bool × List Int) (fun x => [(7, dB x.1), (8, dA), (9, dA), (38, dA), (39, dA), (40, dA), (41, dA), (42, dA), (43, dA), (44, dA), (45, dA), (46, dA), (47, dA), (48, dA), (49, dA), (50, dA), (51, dA), (52, dA), (53, dA), (54, dA), (55, dA), (56, dA), (57, dA), (58, dA), (59, dA), (60, dA), (61, dA), (62, dA), (63, dA), (64, dA), (65, dA), (66, dA), (67, dA), (68, dA), (69, dA), (70, dA), (71, dA), (72, dA), (73, dA), (74, dA), (75, dA), (76, dA), (77, dA), (78, dA), (79, dA), (80, dA), (81, dA), (82, dA)]) (fun x => [hRow v 3 RI x.2]) (fun x => 2 * negN x.2 + (if x.1 then 1 else 0)) (fun x => Mid l i x.2 ∧ (x.1 = false → ∀ j k, j < l.length → k < l.length → Shut l i x.2 j k)) (true, o0) ?start ?frame0 ?objs0 ?round)
            case start => exact ⟨hM0, (fun h => nomatch h)⟩
            case frame0 => ((try dsimp only [upds, z0, z1]); repeat (first | exact LeF.nil | refine LeF.co (k := ?_)))
            case objs0 => rfl
            case round =>
              rintro ⟨b, o⟩ ⟨m1, m2⟩
              simp only at m1 m2
              dsimp only [upds, z0, z1]
              have hlen := m1.len
              cases b with
              | false =>
                have he := m1.fin (fun s hs => (hg s hs).1) hi (by omega) (m2 rfl)
                ((repeat' (first | ((first | apply WL.opN | apply WD.opN); exact yF; dsimp only [setD, z0, z1]) | refine WL.nil ?_ | refine WC.seqK fun Kx hK => ?_ | (refine hK _ _ ?_; clear hK) | (refine Kont.skip ?_; clear hK) | refine WC.region ?_ | ((first | apply WL.opG | apply WD.op); (focus (first | exact wN | (apply SYG.yes; (exact wY); ((first | ((first | apply SY.add) <;> first | exact oD | omega) | fail); all_goals infer_instance)))); dsimp only [setD, z0, z1]) | (apply WC.condF; (exact oD); (with_reducible rfl)) | refine WC.exit ?_ | refine ThenD.n ?_)); all_goals (first | ((repeat clear hK); (repeat clear Kx))))
                (refine ⟨i + 1 , ?_, by first | omega | (simp only; omega), by ((try simp only);  rw [he]), ?_⟩; rotate_left; ((try dsimp only [upds, z0, z1]); repeat (first | exact LeF.nil | refine LeF.co (k := ?_))); (try dsimp only))
                omega
              | true =>
                clear m2
                (repeat' (first | ((first | apply WL.opN | apply WD.opN); exact yF; dsimp only [setD, z0, z1]) | refine WL.nil ?_ | refine WC.seqK fun Kx hK => ?_ | (refine hK _ _ ?_; clear hK) | refine WC.region ?_ | (apply WC.condT; (exact oD); (with_reducible rfl)) | refine WC.skip ?_ | refine WC.block ?_))
                (refine WC.loopU (X := Nat × Bool × List Int) (fun x => [(8, dI (x.1 : Int)), (7, dB x.2.1), (9, dA), (39, dA), (40, dA), (41, dA), (42, dA), (43, dA), (44, dA), (45, dA), (46, dA), (47, dA), (48, dA), (49, dA), (50, dA), (51, dA), (52, dA), (53, dA), (54, dA), (55, dA), (56, dA), (57, dA), (58, dA), (59, dA), (60, dA), (61, dA), (62, dA), (63, dA), (64, dA), (65, dA), (66, dA), (67, dA), (68, dA), (69, dA), (70, dA), (71, dA), (72, dA), (73, dA), (74, dA), (75, dA), (76, dA), (77, dA), (78, dA), (79, dA), (80, dA), (81, dA), (82, dA)]) (fun x => [hRow v 3 RI x.2.2]) (fun x => l.length - x.1) (fun x => x.1 ≤ l.length ∧ Mid l i x.2.2 ∧ (x.2.1 = false → x.2.2 = o ∧ ∀ j' k, j' < x.1 → k < l.length → Shut l i o j' k) ∧ (x.2.1 = true → negN x.2.2 < negN o)) (0, false, o) ?start ?frame0 ?objs0 ?round)
                case start => exact ⟨Nat.zero_le _, m1, fun _ => ⟨rfl, fun j' k h => by omega⟩, (fun h => nomatch h)⟩
                case frame0 => ((try dsimp only [upds, z0, z1]); repeat (first | exact LeF.nil | refine LeF.co (k := ?_)))
                case objs0 => rfl
                case round =>
                  rintro ⟨j, b1, o1⟩ ⟨p1, p2, p3, p4⟩
                  simp only at p1 p2 p3 p4
                  dsimp only [upds, z0, z1]
                  have hlen1 := p2.len
                  by_cases hj : j < l.length
                  · (repeat' (first | ((first | apply WL.opN | apply WD.opN); exact yF; dsimp only [setD, z0, z1]) | refine WL.nil ?_ | refine WC.seqK fun Kx hK => ?_ | (refine hK _ _ ?_; clear hK) | refine WC.region ?_ | ((first | apply WL.opG | apply WD.op); (focus (first | exact wN | (apply SYG.yes; (exact wY); ((first | ((first | apply SY.move | apply SY.assign | apply SY.lss | apply SY.gtr | apply SY.geq | apply SY.eql) <;> (exact oD)) | (apply SY.lenR; exact OpD.t rfl; (first | exact .head _ | exact .tail _ (.head _)); (exact uD)) | fail); all_goals infer_instance)))); dsimp only [setD, z0, z1]) | (apply WC.condD; (exact oD); all_goals (intro h; try exact xD)) | refine WC.skip ?_ | refine WC.block ?_))
                    (refine WC.loopU (X := Nat × Bool × List Int) (fun x => [(9, dI (x.1 : Int)), (7, dB x.2.1), (45, dA), (46, dA), (47, dA), (48, dA), (49, dA), (50, dA), (51, dA), (52, dA), (53, dA), (54, dA), (55, dA), (56, dA), (57, dA), (58, dA), (59, dA), (60, dA), (61, dA), (62, dA), (63, dA), (64, dA), (65, dA), (66, dA), (67, dA), (68, dA), (69, dA), (70, dA), (71, dA), (72, dA), (73, dA), (74, dA), (75, dA), (76, dA), (77, dA), (78, dA), (79, dA), (80, dA), (81, dA), (82, dA)]) (fun x => [hRow v 3 RI x.2.2]) (fun x => l.length - x.1) (fun x => x.1 ≤ l.length ∧ Mid l i x.2.2 ∧ (x.2.1 = false → x.2.2 = o ∧ (∀ j' k, j' < j → k < l.length → Shut l i o j' k) ∧ ∀ k, k < x.1 → Shut l i o j k) ∧ (x.2.1 = true → negN x.2.2 < negN o)) (0, b1, o1) ?start ?frame0 ?objs0 ?round)
                    case start => exact ⟨Nat.zero_le _, p2, fun h => ⟨(p3 h).1, (p3 h).2, fun k h => by omega⟩, p4⟩
                    case frame0 => ((try dsimp only [upds, z0, z1]); repeat (first | exact LeF.nil | refine LeF.co (k := ?_)))
                    case objs0 => rfl
                    case round =>
                      rintro ⟨k, b2, o2⟩ ⟨q1, q2, q3, q4⟩
                      simp only at q1 q2 q3 q4
                      dsimp only [upds, z0, z1]
                      have hlen2 := q2.len
                      clear p1 p2 p3 p4
                      have hjo : j < o2.length := by omega
                      by_cases hk : k < l.length
                      · have hko : k < o2.length := by omega
                        by_cases hneg : o2[j] < 0
                        · by_cases hm : o2[k] = (nextN l i : Int)
                          · have hs8 := (hg _ (List.getElem_mem hj)).2
                            have cS := shared_c l[j] l[k] true (by omega)
                            by_cases hsh : 0 < (sharedV l[j] l[k] true).length
                            · have hset := negN_set (m := (nextN l i : Int)) hjo hneg (by omega)
                              have hle : negN o2 ≤ negN o := by
                                cases b2 with
                                | false => rw [(q3 rfl).1]; exact Nat.le_refl _
                                | true => exact Nat.le_of_lt (q4 rfl)
                              have hmid := q2.set hi hj hk hko hm (decide_eq_true hsh)
                              ((repeat' (first | ((first | apply WL.opN | apply WD.opN); exact yF; dsimp only [setD, z0, z1]) | refine WL.nil ?_ | refine WD.nil ?_ | refine WC.seqK fun Kx hK => ?_ | (refine hK _ _ ?_; clear hK) | refine WC.region ?_ | (apply WC.draw; kernel_rfl; kernel_rfl) |  (apply WL.storeR; exact tyI; exact OpD.t rfl; exact OpD.t rfl; exact shape_I; omega; dsimp only [setD, z0, z1]) | ((first | apply WL.opG | apply WD.op); (focus (first | exact wN | (apply SYG.yes; (exact wY); ((first | (apply SY.ixR; exact elI; exact OpD.t rfl; exact .head _; exact OpD.t rfl; rfl; omega) | (apply SY.loadR; exact tyI; exact OpD.t rfl; exact .head _; omega) | (apply SY.call (cS) Tryz.call133; (exact aD)) | ((first | apply SY.move | apply SY.assign | apply SY.lss | apply SY.gtr | apply SY.geq | apply SY.eql) <;> (exact oD)) | ((first | apply SY.add) <;> first | exact oD | omega) | (apply SY.load; (exact tD); (exact oD)) | (apply SY.len; (exact oD); (exact nD); (exact uD)) | (apply SY.lenR; exact OpD.t rfl; (first | exact .head _ | exact .tail _ (.head _)); (exact uD)) | (apply SY.ix; (exact eD); (exact oD); (exact oD); exact kD) | (apply SY.fldC cpxT; exact OpD.t rfl) | (apply SY.pickT; (exact oD); (with_reducible rfl); (exact oD)) | fail); all_goals infer_instance)))); dsimp only [setD, z0, z1]) | ((first | refine WL.caseP rfl rfl rfl (fun h => ?_) (fun h => ?_) | refine WL.caseN rfl rfl rfl (fun h => ?_) (fun h => ?_) | refine WL.caseB rfl rfl rfl (fun h => ?_) (fun h => ?_) | refine WD.caseP rfl rfl rfl (fun h => ?_) (fun h => ?_) | refine WD.caseN rfl rfl rfl (fun h => ?_) (fun h => ?_) | refine WD.caseB rfl rfl rfl (fun h => ?_) (fun h => ?_)) <;> (first | (exfalso; first | omega | contradiction) | (dsimp only [z0, z1]))) | (apply WC.condD; (exact oD); all_goals (intro h; try exact xD)) | refine WC.skip ?_ | refine WC.block ?_ | refine ThenD.n ?_)); all_goals (first | ((repeat clear hK); (repeat clear Kx))))
                              all_goals first
                                | (exfalso; omega)
                                | ((refine ⟨(k + 1, true, o2.set j (nextN l i : Int)), ?_, by first | omega | (simp only; omega), rfl, ?_⟩; rotate_left; ((try dsimp only [upds, z0, z1]); repeat (first | exact LeF.nil | refine LeF.co (k := ?_))); (try dsimp only))
                                   exact ⟨by omega, hmid, (fun h => nomatch h), fun _ => by omega⟩)
                            · ((repeat' (first | ((first | apply WL.opN | apply WD.opN); exact yF; dsimp only [setD, z0, z1]) | refine WL.nil ?_ | refine WD.nil ?_ | refine WC.seqK fun Kx hK => ?_ | (refine hK _ _ ?_; clear hK) | refine WC.region ?_ | (apply WC.draw; kernel_rfl; kernel_rfl) | ((first | apply WL.opG | apply WD.op); (focus (first | exact wN | (apply SYG.yes; (exact wY); ((first | (apply SY.ixR; exact elI; exact OpD.t rfl; exact .head _; exact OpD.t rfl; rfl; omega) | (apply SY.loadR; exact tyI; exact OpD.t rfl; exact .head _; omega) | (apply SY.call (cS) Tryz.call133; (exact aD)) | ((first | apply SY.move | apply SY.assign | apply SY.lss | apply SY.gtr | apply SY.geq | apply SY.eql) <;> (exact oD)) | ((first | apply SY.add) <;> first | exact oD | omega) | (apply SY.load; (exact tD); (exact oD)) | (apply SY.len; (exact oD); (exact nD); (exact uD)) | (apply SY.lenR; exact OpD.t rfl; (first | exact .head _ | exact .tail _ (.head _)); (exact uD)) | (apply SY.ix; (exact eD); (exact oD); (exact oD); exact kD) | (apply SY.fldC cpxT; exact OpD.t rfl) | (apply SY.pickT; (exact oD); (with_reducible rfl); (exact oD)) | fail); all_goals infer_instance)))); dsimp only [setD, z0, z1]) | ((first | refine WL.caseP rfl rfl rfl (fun h => ?_) (fun h => ?_) | refine WL.caseN rfl rfl rfl (fun h => ?_) (fun h => ?_) | refine WL.caseB rfl rfl rfl (fun h => ?_) (fun h => ?_) | refine WD.caseP rfl rfl rfl (fun h => ?_) (fun h => ?_) | refine WD.caseN rfl rfl rfl (fun h => ?_) (fun h => ?_) | refine WD.caseB rfl rfl rfl (fun h => ?_) (fun h => ?_)) <;> (first | (exfalso; first | omega | contradiction) | (dsimp only [z0, z1]))) | (apply WC.condD; (exact oD); all_goals (intro h; try exact xD)) | refine WC.skip ?_ | refine WC.block ?_ | refine ThenD.n ?_)); all_goals (first | ((repeat clear hK); (repeat clear Kx))))
                              all_goals first
                                | (exfalso; omega)
                                | ((refine ⟨(k + 1, b2, o2), ?_, by first | omega | (simp only; omega), rfl, ?_⟩; rotate_left; ((try dsimp only [upds, z0, z1]); repeat (first | exact LeF.nil | refine LeF.co (k := ?_))); (try dsimp only))
                                   refine ⟨by omega, q2, fun h => ?_, q4⟩
                                   obtain ⟨r1, r2, r3⟩ := q3 h
                                   refine ⟨r1, r2, fun k' hk' => ?_⟩
                                   by_cases hkk : k' = k
                                   · subst hkk; exact shut_not hj hk (by omega)
                                   · exact r3 k' (by omega))
                          · ((repeat' (first | ((first | apply WL.opN | apply WD.opN); exact yF; dsimp only [setD, z0, z1]) | refine WL.nil ?_ | refine WD.nil ?_ | refine WC.seqK fun Kx hK => ?_ | (refine hK _ _ ?_; clear hK) | refine WC.region ?_ | (apply WC.draw; kernel_rfl; kernel_rfl) | ((first | apply WL.opG | apply WD.op); (focus (first | exact wN | (apply SYG.yes; (exact wY); ((first | (apply SY.ixR; exact elI; exact OpD.t rfl; exact .head _; exact OpD.t rfl; rfl; omega) | (apply SY.loadR; exact tyI; exact OpD.t rfl; exact .head _; omega) | ((first | apply SY.move | apply SY.assign | apply SY.lss | apply SY.gtr | apply SY.geq | apply SY.eql) <;> (exact oD)) | ((first | apply SY.add) <;> first | exact oD | omega) | (apply SY.lenR; exact OpD.t rfl; (first | exact .head _ | exact .tail _ (.head _)); (exact uD)) | (apply SY.pickT; (exact oD); (with_reducible rfl); (exact oD)) | (apply SY.pickF; (exact oD); (with_reducible rfl); (exact oD)) | fail); all_goals infer_instance)))); dsimp only [setD, z0, z1]) | ((first | refine WL.caseP rfl rfl rfl (fun h => ?_) (fun h => ?_) | refine WL.caseN rfl rfl rfl (fun h => ?_) (fun h => ?_) | refine WL.caseB rfl rfl rfl (fun h => ?_) (fun h => ?_) | refine WD.caseP rfl rfl rfl (fun h => ?_) (fun h => ?_) | refine WD.caseN rfl rfl rfl (fun h => ?_) (fun h => ?_) | refine WD.caseB rfl rfl rfl (fun h => ?_) (fun h => ?_)) <;> (first | (exfalso; first | omega | contradiction) | (dsimp only [z0, z1]))) | (apply WC.condF; (exact oD); (with_reducible rfl)) | (apply WC.condD; (exact oD); all_goals (intro h; try exact xD)) | refine WC.skip ?_ | refine WC.block ?_ | refine ThenD.n ?_)); all_goals (first | ((repeat clear hK); (repeat clear Kx))))
                            all_goals first
                              | (exfalso; omega)
                              | ((refine ⟨(k + 1, b2, o2), ?_, by first | omega | (simp only; omega), rfl, ?_⟩; rotate_left; ((try dsimp only [upds, z0, z1]); repeat (first | exact LeF.nil | refine LeF.co (k := ?_))); (try dsimp only))
                                 refine ⟨by omega, q2, fun h => ?_, q4⟩
                                 obtain ⟨r1, r2, r3⟩ := q3 h
                                 refine ⟨r1, r2, fun k' hk' => ?_⟩
                                 by_cases hkk : k' = k
                                 · subst hkk
                                   rw [← r1]
                                   exact shut_neq fun _ => hm
                                 · exact r3 k' (by omega))
                        · ((repeat' (first | ((first | apply WL.opN | apply WD.opN); exact yF; dsimp only [setD, z0, z1]) | refine WL.nil ?_ | refine WC.seqK fun Kx hK => ?_ | (refine hK _ _ ?_; clear hK) | (refine Kont.skip ?_; clear hK) | refine WC.region ?_ | ((first | apply WL.opG | apply WD.op); (focus (first | exact wN | (apply SYG.yes; (exact wY); ((first | (apply SY.ixR; exact elI; exact OpD.t rfl; exact .head _; exact OpD.t rfl; rfl; omega) | (apply SY.loadR; exact tyI; exact OpD.t rfl; exact .head _; omega) | ((first | apply SY.move | apply SY.assign | apply SY.lss | apply SY.gtr | apply SY.geq | apply SY.eql) <;> (exact oD)) | ((first | apply SY.add) <;> first | exact oD | omega) | (apply SY.lenR; exact OpD.t rfl; (first | exact .head _ | exact .tail _ (.head _)); (exact uD)) | (apply SY.pickT; (exact oD); (with_reducible rfl); (exact oD)) | fail); all_goals infer_instance)))); dsimp only [setD, z0, z1]) | ((first | refine WL.caseP rfl rfl rfl (fun h => ?_) (fun h => ?_) | refine WL.caseN rfl rfl rfl (fun h => ?_) (fun h => ?_) | refine WL.caseB rfl rfl rfl (fun h => ?_) (fun h => ?_) | refine WD.caseP rfl rfl rfl (fun h => ?_) (fun h => ?_) | refine WD.caseN rfl rfl rfl (fun h => ?_) (fun h => ?_) | refine WD.caseB rfl rfl rfl (fun h => ?_) (fun h => ?_)) <;> (first | (exfalso; first | omega | contradiction) | (dsimp only [z0, z1]))) | (apply WC.condD; (exact oD); all_goals (intro h; try exact xD)) | refine WC.exit ?_ | refine ThenD.n ?_)); all_goals (first | ((repeat clear hK); (repeat clear Kx))))
                          all_goals first
                            | (exfalso; omega)
                            | ((refine ⟨(j + 1, b2, o2), ?_, by first | omega | (simp only; omega), rfl, ?_⟩; rotate_left; ((try dsimp only [upds, z0, z1]); repeat (first | exact LeF.nil | refine LeF.co (k := ?_))); (try dsimp only))
                               refine ⟨by omega, q2, fun h => ?_, q4⟩
                               obtain ⟨r1, r2, r3⟩ := q3 h
                               refine ⟨r1, fun j' k' hj' hk' => ?_⟩
                               by_cases hjj : j' = j
                               · subst hjj
                                 rw [← r1]
                                 exact shut_vac fun _ => by omega
                               · exact r2 j' k' (by omega) hk')
                      · ((repeat' (first | ((first | apply WL.opN | apply WD.opN); exact yF; dsimp only [setD, z0, z1]) | refine WL.nil ?_ | refine WC.seqK fun Kx hK => ?_ | (refine hK _ _ ?_; clear hK) | (refine Kont.skip ?_; clear hK) | refine WC.region ?_ | ((first | apply WL.opG | apply WD.op); (focus (first | exact wN | (apply SYG.yes; (exact wY); ((first | ((first | apply SY.move | apply SY.assign | apply SY.lss | apply SY.gtr | apply SY.geq | apply SY.eql) <;> (exact oD)) | ((first | apply SY.add) <;> first | exact oD | omega) | (apply SY.lenR; exact OpD.t rfl; (first | exact .head _ | exact .tail _ (.head _)); (exact uD)) | (apply SY.pickF; (exact oD); (with_reducible rfl); (exact oD)) | fail); all_goals infer_instance)))); dsimp only [setD, z0, z1]) | ((first | refine WL.caseP rfl rfl rfl (fun h => ?_) (fun h => ?_) | refine WL.caseN rfl rfl rfl (fun h => ?_) (fun h => ?_) | refine WL.caseB rfl rfl rfl (fun h => ?_) (fun h => ?_) | refine WD.caseP rfl rfl rfl (fun h => ?_) (fun h => ?_) | refine WD.caseN rfl rfl rfl (fun h => ?_) (fun h => ?_) | refine WD.caseB rfl rfl rfl (fun h => ?_) (fun h => ?_)) <;> (first | (exfalso; first | omega | contradiction) | (dsimp only [z0, z1]))) | (apply WC.condF; (exact oD); (with_reducible rfl)) | refine WC.exit ?_ | refine ThenD.n ?_)); all_goals (first | ((repeat clear hK); (repeat clear Kx))))
                        all_goals first
                          | (exfalso; omega)
                          | ((refine ⟨(j + 1, b2, o2), ?_, by first | omega | (simp only; omega), rfl, ?_⟩; rotate_left; ((try dsimp only [upds, z0, z1]); repeat (first | exact LeF.nil | refine LeF.co (k := ?_))); (try dsimp only))
                             refine ⟨by omega, q2, fun h => ?_, q4⟩
                             obtain ⟨r1, r2, r3⟩ := q3 h
                             refine ⟨r1, fun j' k' hj' hk' => ?_⟩
                             by_cases hjj : j' = j
                             · subst hjj; exact r3 k' (by omega)
                             · exact r2 j' k' (by omega) hk')
                  · ((repeat' (first | ((first | apply WL.opN | apply WD.opN); exact yF; dsimp only [setD, z0, z1]) | refine WL.nil ?_ | refine WC.seqK fun Kx hK => ?_ | (refine hK _ _ ?_; clear hK) | refine WC.region ?_ | ((first | apply WL.opG | apply WD.op); (focus (first | exact wN | (apply SYG.yes; (exact wY); ((first | ((first | apply SY.move | apply SY.assign | apply SY.lss | apply SY.gtr | apply SY.geq | apply SY.eql) <;> (exact oD)) | (apply SY.lenR; exact OpD.t rfl; (first | exact .head _ | exact .tail _ (.head _)); (exact uD)) | fail); all_goals infer_instance)))); dsimp only [setD, z0, z1]) | (apply WC.condD; (exact oD); all_goals (intro h; try exact xD)) | refine WC.exit ?_ | refine ThenD.n ?_ | refine ThenD.x ?_ | refine InBlockD.x ?_ | refine InBlockD.n ?_)); all_goals (first | ((repeat clear hK); (repeat clear Kx))))
                    cases b1 with
                    | false =>
                      obtain ⟨r1, r2⟩ := p3 rfl
                      subst r1
                      refine ⟨(false, o1), ?_, by simp, rfl, ?_⟩
                      rotate_left
                      · ((try dsimp only [upds, z0, z1]); repeat (first | exact LeF.nil | refine LeF.co (k := ?_)))
                      · exact ⟨p2, fun _ j' k' hj' hk' => r2 j' k' (by omega) hk'⟩
                    | true =>
                      have := p4 rfl
                      refine ⟨(true, o1), ?_, by simp; omega, rfl, ?_⟩
                      rotate_left
                      · ((try dsimp only [upds, z0, z1]); repeat (first | exact LeF.nil | refine LeF.co (k := ?_)))
                      · exact ⟨p2, (fun h => nomatch h)⟩
        · have hie : i = l.length := by omega
          subst hie
          ((repeat' (first | ((first | apply WL.opN | apply WD.opN); exact yF; dsimp only [setD, z0, z1]) | refine WL.nil ?_ | refine WC.seqK fun Kx hK => ?_ | (refine hK _ _ ?_; clear hK) | (refine Kont.skip ?_; clear hK) | refine WC.region ?_ | ((first | apply WL.opG | apply WD.op); (focus (first | exact wN | (apply SYG.yes; (exact wY); ((first | ((first | apply SY.move | apply SY.assign | apply SY.lss | apply SY.gtr | apply SY.geq | apply SY.eql) <;> (exact oD)) | (apply SY.lenR; exact OpD.t rfl; (first | exact .head _ | exact .tail _ (.head _)); (exact uD)) | fail); all_goals infer_instance)))); dsimp only [setD, z0, z1]) | (apply WC.condD; (exact oD); all_goals (intro h; try exact xD)) | refine WC.ret ?_ | refine WC.exit ?_)); all_goals (first | ((repeat clear hK); (repeat clear Kx))))
          rw [outN_all]
          (refine ⟨trivial, _, rfl, ?_⟩; exact fD)
end Go.Proofs.YtjbepoofigokjaaGreat
