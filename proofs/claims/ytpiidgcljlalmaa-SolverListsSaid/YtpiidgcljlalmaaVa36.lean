/- Part 36: walks by contracts, and plain laws. -/
import Derived.Test.YtpiidgcljlalmaaVa35
set_option linter.unusedVariables false
set_option linter.unusedSimpArgs false
set_option linter.unusedSectionVars false
namespace Go.Proofs.Ytpiidgcljlalmaa
open Go.RowKit
theorem refut_verify {V : Nat} (hV : V ≤ 4096) {l p : List (List Int)} (h : Refut V l p) (hck : checkI (V : Int) l = 0) (hp : p.length ≤ 32768) : verifyI (V : Int) l p = (0, 0) := by
  rw [verifyI_zero hck hp (badI_none.2 fun c hc => (clauseI_iff hV).2 (h.wp c hc)), if_neg]
  have := gapI_neg.2 ⟨h.ok, h.last⟩
  omega
theorem verify_refut {V : Nat} (hV : V ≤ 4096) {l p : List (List Int)} (h : (verifyI (V : Int) l p).2 = 0) : Refut V l p := by
  obtain ⟨h1, h2, h3, h4⟩ := verifyI_ok h
  have hw : WfL V l := (clausesI_iff hV).1 (checkI_zero h1).2.2.2
  exact ⟨hw, fun c hc => (clauseI_iff hV).1 (badI_none.1 h3 c hc), (gapI_neg.1 h4).1, (gapI_neg.1 h4).2⟩
set_option linter.unusedSimpArgs false
set_option linter.unusedVariables false
set_option maxHeartbeats 2000000
set_option maxRecDepth 100000
theorem equal43_p (a b : List Int) : Fn Try.prog 35 [dS Ints a, dS Ints b] (dB (decide (a = b))) := by
  (refine Fn.intro1 Try.func35 rfl rfl ?_; simp only [Try.ntmps35, List.length_cons, List.length_nil, Nat.reduceAdd, Nat.reduceSub, List.replicate_succ, List.replicate_zero, List.cons_append, List.nil_append])
  by_cases hl : a.length = b.length
  · have hlI : ¬ (a.length : Int) ≠ (b.length : Int) := by omega
    (repeat' (first | ((first | apply WL.opN | apply WD.opN); exact yF; dsimp only [setD, z0, z1]) | refine WL.nil ?_ | refine WC.seqK fun Kx hK => ?_ | (refine hK _ _ ?_; clear hK) | refine WC.region ?_ | ((first | apply WL.opN | apply WD.opN); (focus ((first | ((first | apply SY.move | apply SY.assign | apply SY.lss | apply SY.neq) <;> (exact oD)) | (apply SY.len; (exact oD); (exact nD); (exact uD)) | fail); all_goals infer_instance)); dsimp only [setD, z0, z1]) | (apply WC.condN; (exact oD); all_goals (intro h; try exact xD)) | refine WC.skip ?_ | refine WC.block ?_))
    all_goals try (exfalso; first | contradiction | omega)
    (first | refine WC.know (t := 0) rfl le_K fun hl0 => ?_ | refine WC.know (t := 0) rfl le_A fun hl0 => ?_); simp only [maxLen] at hl0
    (refine WC.loopU (X := Nat) (fun k => [(13, dI (k : Int)), (4, dA), (5, dA), (14, dA), (15, dA), (16, dA), (17, dA), (18, dA), (19, dA), (20, dA), (21, dA), (22, dA), (23, dA), (24, dA), (25, dA)]) (fun k => []) (fun k => a.length - k) (fun k => k ≤ a.length ∧ ∀ j (hj : j < k) (h1 : j < a.length) (h2 : j < b.length), a[j] = b[j]) 0 ?start ?frame0 ?objs0 ?round)
    case start => exact ⟨Nat.zero_le _, fun j hj => absurd hj (Nat.not_lt_zero j)⟩
    case frame0 => ((try dsimp only [upds, z0, z1]); repeat (first | exact LeF.nil | refine LeF.co (k := ?_)))
    case objs0 => rfl
    case round =>
      rintro k ⟨h1, h2⟩
      dsimp only [upds, z0, z1]
      by_cases hk : k < a.length
      · have hlt : (k : Int) < (a.length : Int) := by omega
        have hkb : k < b.length := by omega
        by_cases he : a[k] = b[k]
        · have heI : ¬ a[k] ≠ b[k] := fun h => h he
          ((repeat' (first | ((first | apply WL.opN | apply WD.opN); exact yF; dsimp only [setD, z0, z1]) | refine WL.nil ?_ | refine WD.nil ?_ | refine WC.seqK fun Kx hK => ?_ | (refine hK _ _ ?_; clear hK) | refine WC.region ?_ | (apply WC.draw; kernel_rfl; kernel_rfl) | ((first | apply WL.opN | apply WD.opN); (focus ((first | (refine SY.ix (R := RI) (_gR := inferInstance) (k := k) elI (OpD.t rfl) (OpD.t rfl) (by omega)) | ((first | apply SY.move | apply SY.assign | apply SY.lss | apply SY.neq) <;> (exact oD)) | ((first | apply SY.add) <;> first | exact oD | omega) | fail); all_goals infer_instance)); dsimp only [setD, z0, z1]) | (apply WC.condD; (exact oD); all_goals (intro h; try exact xD)) | (apply WC.condN; (exact oD); all_goals (intro h; try exact xD)) | refine WC.skip ?_ | refine WC.block ?_ | refine ThenD.n ?_)); all_goals (first | ((repeat clear hK); (repeat clear Kx))))
          all_goals try (exfalso; first | contradiction | omega)
          (refine ⟨k + 1, ?_, by first | omega | (simp only; omega), rfl, ?_⟩; rotate_left; ((try dsimp only [upds, z0, z1]); repeat (first | exact LeF.nil | refine LeF.co (k := ?_))); (try dsimp only))
          refine ⟨by omega, fun j hj h3 h4 => ?_⟩
          rcases (by omega : j < k ∨ j = k) with h5 | rfl
          · exact h2 j h5 h3 h4
          · exact he
        · ((repeat' (first | ((first | apply WL.opN | apply WD.opN); exact yF; dsimp only [setD, z0, z1]) | refine WL.nil ?_ | refine WD.nil ?_ | refine WC.seqK fun Kx hK => ?_ | (refine hK _ _ ?_; clear hK) | refine WC.region ?_ | (apply WC.draw; kernel_rfl; kernel_rfl) | ((first | apply WL.opN | apply WD.opN); (focus ((first | (refine SY.ix (R := RI) (_gR := inferInstance) (k := k) elI (OpD.t rfl) (OpD.t rfl) (by omega)) | ((first | apply SY.move | apply SY.assign | apply SY.lss | apply SY.neq) <;> (exact oD)) | fail); all_goals infer_instance)); dsimp only [setD, z0, z1]) | (apply WC.condD; (exact oD); all_goals (intro h; try exact xD)) | (apply WC.condN; (exact oD); all_goals (intro h; try exact xD)) | refine WC.skip ?_ | refine WC.ret ?_ | refine WC.block ?_ | refine ThenD.r ?_ | refine InBlockD.r ?_)); all_goals (first | ((repeat clear hK); (repeat clear Kx))))
          all_goals try (exfalso; first | contradiction | omega)
          (refine ⟨trivial, _, rfl, ?_⟩; refine FinD.b ?_)
          symm; rw [decide_eq_false_iff_not]; intro e; subst e; exact he rfl
      · have hlt : ¬ (k : Int) < (a.length : Int) := by omega
        ((repeat' (first | ((first | apply WL.opN | apply WD.opN); exact yF; dsimp only [setD, z0, z1]) | refine WL.nil ?_ | refine WC.seqK fun Kx hK => ?_ | (refine hK _ _ ?_; clear hK) | (refine Kont.skip ?_; clear hK) | refine WC.region ?_ | ((first | apply WL.opN | apply WD.opN); (focus ((first | ((first | apply SY.move | apply SY.assign | apply SY.lss | apply SY.neq) <;> (exact oD)) | fail); all_goals infer_instance)); dsimp only [setD, z0, z1]) | (apply WC.condD; (exact oD); all_goals (intro h; try exact xD)) | refine WC.ret ?_ | refine WC.exit ?_)); all_goals (first | ((repeat clear hK); (repeat clear Kx))))
        all_goals try (exfalso; first | contradiction | omega)
        (refine ⟨trivial, _, rfl, ?_⟩; refine FinD.b ?_)
        symm; rw [decide_eq_true_eq]; exact List.ext_getElem hl fun j h3 h4 => h2 j (by omega) h3 h4
  · have hlI : (a.length : Int) ≠ (b.length : Int) := by omega
    ((repeat' (first | ((first | apply WL.opN | apply WD.opN); exact yF; dsimp only [setD, z0, z1]) | refine WL.nil ?_ | refine WC.seqK fun Kx hK => ?_ | (refine hK _ _ ?_; clear hK) | refine WC.region ?_ | ((first | apply WL.opN | apply WD.opN); (focus ((first | ((first | apply SY.move | apply SY.assign | apply SY.lss | apply SY.neq) <;> (exact oD)) | (apply SY.len; (exact oD); (exact nD); (exact uD)) | fail); all_goals infer_instance)); dsimp only [setD, z0, z1]) | (apply WC.condN; (exact oD); all_goals (intro h; try exact xD)) | refine WC.ret ?_ | refine ThenD.r ?_)); all_goals (first | ((repeat clear hK); (repeat clear Kx))))
    all_goals try (exfalso; first | contradiction | omega)
    (refine ⟨trivial, _, rfl, ?_⟩; refine FinD.b ?_)
    symm; rw [decide_eq_false_iff_not]; intro e; subst e; exact hl rfl
abbrev tsA : List (List Int) := [[1, 2], [-1]]
abbrev tsB : List (List Int) := [[1, 2], [-1], [-2]]
theorem ts_a {v : Int} {m : List Int} {p : List (List Int)} (h : SolveR 2 tsA v m p) : v = 1 ∧ m = [-1, 2] := by
  rcases h.is with ⟨h1, _, h2⟩ | ⟨_, _, _, h2, _⟩
  · have e : allF 2 tsA [] = [[-1, 2]] := by decide +kernel
    rw [e] at h2
    exact ⟨h1, List.mem_singleton.1 h2⟩
  · have e : unsB 2 tsA = false := by decide +kernel
    rw [e] at h2; cases h2
theorem ts_b {v : Int} {m : List Int} {p : List (List Int)} (h : SolveR 2 tsB v m p) : v = 2 ∧ verifyI 2 tsB p = (0, 0) := by
  rcases h.is with ⟨_, _, h2⟩ | ⟨h1, _, _, _, h2, h3⟩
  · have e : allF 2 tsB [] = [] := by decide +kernel
    rw [e] at h2; cases h2
  · have e : (2 : Nat) ^ (2 * 2 + 1) = 32 := by decide
    exact ⟨h1, refut_verify (V := 2) (by decide) h2 (by decide +kernel) (by omega)⟩
theorem irr_b : IRR tsB := irr_wf (V := 2) (by decide) ((clausesI_iff (V := 2) (by decide)).1 (by decide +kernel))
set_option maxHeartbeats 8000000 in
theorem trySolved_p : Fn Try.prog 10 [] (dB true) := by
  (refine Fn.intro1 Try.func10 rfl rfl ?_; simp only [Try.ntmps10, List.length_cons, List.length_nil, Nat.reduceAdd, Nat.reduceSub, List.replicate_succ, List.replicate_zero, List.cons_append, List.nil_append])
  have hs1 := solve_c 2 tsA (by decide) (by decide +kernel)
  have hs2 := solve_c 2 tsB (by decide) (by decide +kernel)
  rw [show ((2 : Nat) : Int) = 2 from rfl] at hs1 hs2
  (repeat' (first |  (refine WC.only 3 (Halt.go ?_)) | (apply WL.opN; exact yF; dsimp only [setD, z0, z1]) | refine WL.nil ?_ | refine WC.seqK fun Kx hK => ?_ | (refine hK _ _ ?_; clear hK) | refine WC.region ?_ |  (refine WL.allocS (zs := [.int .i64 0, .slice none 0 0]) tzV (by decide) (by simp [Value.oneCell']) fun b1 => ?_; dsimp only [setD, z0, z1]) |  (refine WL.storeW tyV (OpD.t rfl) (OpD.t rfl) rfl rfl ?_; dsimp only [setD, z0, z1]) |  (refine WL.callC (hp1 := []) (caps := []) hs1 Try.call16 OpD.f (ArgsD.cons (OpD.tle rfl (agg_le (Dat.le_refl _) (le_F (R := Ints) (_gR := inferInstance)))) ArgsD.nil) ?_; rintro d' hp2 ⟨rfl, e2, e3, e4, e5, rfl, v, m, p, rfl, rfl, rfl, rfl, hR1⟩; dsimp only [setD, z0, z1, List.nil_append]) | (apply WL.opG; (focus (first | exact wN | (apply SYG.yes; (exact wY); ((first | (refine SY.full1 elSi (R := Ints) (_gR := inferInstance) (as1 := tsA) (ElsD.cn (OpD.t rfl) (ElsD.cn (OpD.t rfl) ElsD.nl)) rfl rfl (fun _ => shape_A) (by simp)) | (exact SY.mkA is_AF OpD.i (OpD.t rfl)) | (exact SY.loadW tyV (OpD.t rfl) (mAt 0 rfl) (by decide) rfl) | (apply SY.build1'; (exact eD); ((try simp only [List.map_cons, List.map_nil]); (repeat (first | exact ElsD.nl | (apply ElsD.cn; (first | exact OpD.t rfl | exact OpD.i | exact OpD.b | exact OpD.tle rfl (by first | exact Dat.le_nil | exact Dat.le_nilK (by decide)) | exact ⟨Dat.le_nil⟩ | exact ⟨Dat.le_nilK (by decide)⟩))))); rfl; rfl; (intro _; first | exact shape_K | exact shape_I | exact shape_A | exact shape_B); (exact (by simp))) | (apply SY.extract; (exact oD); rfl) | fail); all_goals infer_instance)))); dsimp only [setD, z0, z1])))
  refine ⟨?_⟩
  obtain ⟨rfl, rfl⟩ := ts_a hR1
  (repeat' (first |  (refine WC.only 5 (Halt.go ?_)) | (apply WL.opN; exact yF; dsimp only [setD, z0, z1]) | refine WL.nil ?_ | refine WC.seqK fun Kx hK => ?_ | (refine hK _ _ ?_; clear hK) | refine WC.region ?_ |  (refine WL.storeS tySS (OpD.t rfl) (OpD.t rfl) shape_A (by decide) ?_; dsimp only [setD, z0, z1]) |  (refine WL.callC (hp1 := []) (caps := []) hs2 Try.call16 OpD.f (ArgsD.cons (OpD.tle rfl (agg_le (Dat.le_refl _) (Dat.le_refl _))) ArgsD.nil) ?_; rintro d' hp2 ⟨rfl, e2, e3, e4, e5, rfl, v, m, p2, rfl, rfl, rfl, rfl, hR2⟩; dsimp only [setD, z0, z1, List.nil_append]) | (apply WL.opG; (focus (first | exact wN | (apply SYG.yes; (exact wY); ((first | (refine SY.fldS strC (OpD.t rfl) (by decide)) | (apply SY.loadS; exact tySS; exact OpD.t rfl; exact mAt 0 rfl; rfl) | (exact SY.appF elSi (R := Ints) (_gR := inferInstance) (OpD.t rfl) (OpD.t rfl) (by decide) (by simp)) | (exact SY.loadW tyV (OpD.t rfl) (mAt 0 rfl) (by decide) rfl) | (apply SY.build1'; (exact eD); ((try simp only [List.map_cons, List.map_nil]); (repeat (first | exact ElsD.nl | (apply ElsD.cn; (first | exact OpD.t rfl | exact OpD.i | exact OpD.b | exact OpD.tle rfl (by first | exact Dat.le_nil | exact Dat.le_nilK (by decide)) | exact ⟨Dat.le_nil⟩ | exact ⟨Dat.le_nilK (by decide)⟩))))); rfl; rfl; (intro _; first | exact shape_K | exact shape_I | exact shape_A | exact shape_B); (exact (by simp))) | (apply SY.extract; (exact oD); rfl) | fail); all_goals infer_instance)))); dsimp only [setD, z0, z1])))
  refine ⟨?_⟩
  obtain ⟨rfl, hv⟩ := ts_b hR2
  have hvp := verify43_p 2 tsB p2 irr_b
  rw [hv] at hvp
  have heq := equal43_p [-1, 2] [-1, 2]
  ((repeat' (first | (apply WL.opN; exact yF; dsimp only [setD, z0, z1]) | refine WL.nil ?_ | refine WC.seqK fun Kx hK => ?_ | (refine hK _ _ ?_; clear hK) | refine WC.region ?_ | (apply WL.opG; (focus (first | exact wN | (apply SYG.yes; (exact wY); ((first | (exact SY.loadW tyV (OpD.t rfl) (mAt 0 rfl) (by decide) rfl) | (apply SY.call hvp Try.call13; exact ArgsD.cons (OpD.tle rfl (agg_le (Dat.le_refl _) (Dat.le_refl _))) (ArgsD.cons (OpD.t rfl) ArgsD.nil)) | (apply SY.call (heq) Try.call35; (exact aD)) | ((first | apply SY.move | apply SY.assign | apply SY.eql) <;> (exact oD)) | ((first | apply SY.add) <;> first | exact oD | omega) | (apply SY.build1'; (exact eD); ((try simp only [List.map_cons, List.map_nil]); (repeat (first | exact ElsD.nl | (apply ElsD.cn; (first | exact OpD.t rfl | exact OpD.i | exact OpD.b | exact OpD.tle rfl (by first | exact Dat.le_nil | exact Dat.le_nilK (by decide)) | exact ⟨Dat.le_nil⟩ | exact ⟨Dat.le_nilK (by decide)⟩))))); rfl; rfl; (intro _; first | exact shape_K | exact shape_I | exact shape_A | exact shape_B); (exact (by simp))) | (apply SY.pickT; (exact oD); (with_reducible rfl); (exact oD)) | (apply SY.extract; (exact oD); rfl) | fail); all_goals infer_instance)))); dsimp only [setD, z0, z1]) | ((first | refine WL.caseP rfl rfl rfl (fun h => ?_) (fun h => ?_) | refine WL.caseN rfl rfl rfl (fun h => ?_) (fun h => ?_) | refine WL.caseB rfl rfl rfl (fun h => ?_) (fun h => ?_)) <;> (first | (exfalso; first | omega | contradiction) | (dsimp only [z0, z1]))) | refine WC.ret ?_)); all_goals (first | ((repeat clear hK); (repeat clear Kx))))
  all_goals try (exfalso; first | contradiction | omega)
  (refine ⟨trivial, _, rfl, ?_⟩; exact fD)
theorem tryClauses_p (V : Int) (l : List (List Int)) : Fn Try.prog 11 [dS Cls (V, l)] (dB (fewB V l && (decide (checkI V l = 0) && decide (V ≤ 8)))) := by
  (refine Fn.intro1 Try.func11 rfl rfl ?_; simp only [Try.ntmps11, List.length_cons, List.length_nil, Nat.reduceAdd, Nat.reduceSub, List.replicate_succ, List.replicate_zero, List.cons_append, List.nil_append])
  have h1 := few43_p V l
  have h2 := rcheck43_p V l
  generalize fewB V l = f at *
  by_cases hc : checkI V l = 0 <;> by_cases hv : V ≤ 8 <;> cases f <;>
  (((repeat' (first | (apply WL.opN; exact yF; dsimp only [setD, z0, z1]) | refine WL.nil ?_ | refine WC.seqK fun Kx hK => ?_ | (refine hK _ _ ?_; clear hK) | refine WC.region ?_ | (apply WL.opG; (focus (first | exact wN | (apply SYG.yes; (exact wY); ((first | (apply SY.call (h1) Try.call36; (exact aD)) | (apply SY.call (h2) Try.call37; (exact aD)) | ((first | apply SY.move | apply SY.assign | apply SY.leq | apply SY.eql) <;> (exact oD)) | (apply SY.load; (exact tD); (exact oD)) | (apply SY.fldP0 clT; exact OpD.t rfl) | (apply SY.fldP1 clT; exact OpD.t rfl) | (apply SY.pickT; (exact oD); (with_reducible rfl); (exact oD)) | (apply SY.pickF; (exact oD); (with_reducible rfl); (exact oD)) | (apply SY.box; (exact oD); (exact hD)) | fail); all_goals infer_instance)))); dsimp only [setD, z0, z1]) | ((first | refine WL.caseP rfl rfl rfl (fun h => ?_) (fun h => ?_) | refine WL.caseN rfl rfl rfl (fun h => ?_) (fun h => ?_) | refine WL.caseB rfl rfl rfl (fun h => ?_) (fun h => ?_)) <;> (first | (exfalso; first | omega | contradiction) | (dsimp only [z0, z1]))) | refine WC.ret ?_)); all_goals (first | ((repeat clear hK); (repeat clear Kx)))); all_goals try (exfalso; first | contradiction | omega)); all_goals ((refine ⟨trivial, _, rfl, ?_⟩; (first | exact fD | refine FinD.b ?_)); try simp [hc, hv])
end Go.Proofs.Ytpiidgcljlalmaa
