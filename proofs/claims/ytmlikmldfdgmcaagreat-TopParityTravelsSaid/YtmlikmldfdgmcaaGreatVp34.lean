/-
  Part 34 of the texts that the claims of this seat lean on: walks of the program's functions by contracts over symbolic frames, and plain laws of what they compute. No condition.
-/
import Derived.Test.YtmlikmldfdgmcaaGreatVp15
import Derived.Test.YtmlikmldfdgmcaaGreatVp16
import Derived.Test.YtmlikmldfdgmcaaGreatVp22
import Derived.Test.YtmlikmldfdgmcaaGreatVp26
import Derived.Test.YtmlikmldfdgmcaaGreatVp33
set_option linter.unusedVariables false
set_option linter.unusedSimpArgs false
set_option linter.unusedSectionVars false
namespace Go.Proofs.YtmlikmldfdgmcaaGreat
open Go.RowKit
set_option linter.unusedSimpArgs false

set_option maxHeartbeats 2000000
set_option maxRecDepth 100000
theorem chkLG_zero : ∀ {p : Option Vx} {vs : List Vx} {A : List Int}, A.length = vs.length → chkLG p vs A = 0 → Asc vs ∧ (∀ u ∈ p, ∀ v ∈ vs, cmpV u v < 0) ∧ (∀ v ∈ vs, rngV v = true) ∧ ∀ a ∈ A, 1 ≤ a ∧ a < 256
  | _, [], [], _, _ => ⟨by simp [Asc], by simp, by simp, by simp⟩
  | _, [], _ :: _, h, _ => by simp at h
  | _, _ :: _, [], h, _ => by simp at h
  | p, v :: vs, a :: A, h, h0 => by
    unfold chkLG at h0
    by_cases h1 : rngV v = false
    · rw [if_pos h1] at h0; cases h0
    rw [if_neg h1] at h0
    by_cases h2 : befV p v
    · rw [if_pos h2] at h0; cases h0
    rw [if_neg h2] at h0
    by_cases h3 : a < 1 ∨ 256 ≤ a
    · rw [if_pos h3] at h0; cases h0
    rw [if_neg h3] at h0
    obtain ⟨k1, k2, k3, k4⟩ := chkLG_zero (by simpa using h) h0
    have hv := k2 v rfl
    refine ⟨List.pairwise_cons.2 ⟨hv, k1⟩, fun u hu w hw => ?_, fun w hw => ?_, fun b hb => ?_⟩
    · have huv : cmpV u v < 0 := by
        cases p with
        | none => cases hu
        | some u' =>
          cases hu
          have : ¬ 0 ≤ cmpV u v := h2
          omega
      rcases List.mem_cons.1 hw with rfl | hw
      · exact huv
      · exact cmpV_trans huv (hv w hw)
    · rcases List.mem_cons.1 hw with rfl | hw
      · simpa using h1
      · exact k3 w hw
    · rcases List.mem_cons.1 hb with rfl | hb
      · omega
      · exact k4 b hb
theorem chkLb_zero {vs : List Vx} {A : List Int} (h : chkLb vs A = 0) : vs.length ≤ 4096 ∧ A.length = vs.length ∧ Asc vs ∧ (∀ v ∈ vs, rngV v = true) ∧ ∀ a ∈ A, 1 ≤ a ∧ a < 256 := by
  unfold chkLb at h
  by_cases h1 : 4096 < vs.length
  · rw [if_pos h1] at h; cases h
  rw [if_neg h1] at h
  by_cases h2 : A.length ≠ vs.length
  · rw [if_pos h2] at h; cases h
  rw [if_neg h2] at h
  have hA : A.length = vs.length := Classical.byContradiction h2
  obtain ⟨k1, _, k3, k4⟩ := chkLG_zero hA h
  exact ⟨by omega, hA, k1, k3, k4⟩
def rbwL (l : Cx) (f : Vx → Int) : Cx := l.filter fun s => decide (orL f s = ((2 ^ s.length - 1 : Nat) : Int))
def rbwP (l : Cx) (vs : List Vx) (A : List Int) : Cx × Int :=
  if chkC l ≠ 0 then ([], chkC l) else if chkLb vs A ≠ 0 then ([], chkLb vs A) else if covP l (findL vs A) = false then ([], 6) else if sglP A = false then ([], 3) else (rbwL l (findL vs A), 0)
theorem rbwL_snoc {l : Cx} {f : Vx → Int} {k : Nat} (h : k < l.length) : rbwL (l.take (k + 1)) f = rbwL (l.take k) f ++ (if orL f l[k] = ((2 ^ l[k].length - 1 : Nat) : Int) then [l[k]] else []) := by
  unfold rbwL
  rw [take_snoc' h, List.filter_append]
  congr 1
  by_cases hp : orL f l[k] = ((2 ^ l[k].length - 1 : Nat) : Int)
  · rw [if_pos hp, List.filter_cons_of_pos (by simpa using hp)]; rfl
  · rw [if_neg hp, List.filter_cons_of_neg (by simpa using hp)]; rfl
set_option maxHeartbeats 8000000 in
theorem rainbow_p (l : Cx) (vs : List Vx) (A : List Int) : Fn Tryz.prog 11 [dS Cpx l, dS Lab (vs, A)] (dT [dS Simps (rbwP l vs A).1, dI (rbwP l vs A).2]) := by
  have c1 := check_p l
  have c2 := chkLb_p vs A
  (refine Fn.intro2 Tryz.func11 rfl rfl ?_; simp only [Tryz.ntmps11, List.length_cons, List.length_nil, Nat.reduceAdd, Nat.reduceSub, List.replicate_succ, List.replicate_zero, List.cons_append, List.nil_append])
  (first | refine WC.know (t := 0) rfl le_K fun hl0 => ?_ | refine WC.know (t := 0) rfl le_A fun hl0 => ?_ | refine WC.know (t := 0) rfl le_C fun hl0 => ?_); simp only [maxLen] at hl0
  by_cases h1 : chkC l ≠ 0
  · have e : rbwP l vs A = ([], chkC l) := by unfold rbwP; rw [if_pos h1]
    rw [e]
    ((repeat' (first | ((first | apply WL.opN | apply WD.opN); exact yF; dsimp only [setD, z0, z1]) | refine WL.nil ?_ | refine WC.seqK fun Kx hK => ?_ | (refine hK _ _ ?_; clear hK) | refine WC.region ?_ | ((first | apply WL.opN | apply WD.opN); (focus ((first | (apply SY.call (c1) Tryz.call19; (exact aD)) | ((first | apply SY.move | apply SY.assign | apply SY.lss | apply SY.eql | apply SY.neq | apply SY.not) <;> (exact oD)) | (apply SY.box; (exact oD); (exact hD)) | fail); all_goals infer_instance)); dsimp only [setD, z0, z1]) | (apply WC.condN; (exact oD); all_goals (intro h; try exact xD)) | refine WC.ret ?_ | refine ThenD.r ?_)); all_goals (first | ((repeat clear hK); (repeat clear Kx))))
    all_goals try (exfalso; first | contradiction | omega)
    (refine ⟨trivial, ⟨_, rfl, ?_⟩, _, rfl, ?_⟩ <;> exact fD)
  by_cases h2 : chkLb vs A ≠ 0
  · have e : rbwP l vs A = ([], chkLb vs A) := by unfold rbwP; rw [if_neg h1, if_pos h2]
    have h1' : chkC l = 0 := Classical.byContradiction h1
    rw [e]
    rw [h1'] at c1
    ((repeat' (first | ((first | apply WL.opN | apply WD.opN); exact yF; dsimp only [setD, z0, z1]) | refine WL.nil ?_ | refine WC.seqK fun Kx hK => ?_ | (refine hK _ _ ?_; clear hK) | refine WC.region ?_ | ((first | apply WL.opN | apply WD.opN); (focus ((first | (apply SY.call (c1) Tryz.call19; (exact aD)) | (apply SY.call (c2) Tryz.call27; (exact aD)) | (apply SY.load; exact tyLb; exact OpD.t rfl) | ((first | apply SY.move | apply SY.assign | apply SY.lss | apply SY.eql | apply SY.neq | apply SY.not) <;> (exact oD)) | (apply SY.box; (exact oD); (exact hD)) | fail); all_goals infer_instance)); dsimp only [setD, z0, z1]) | (apply WC.condN; (exact oD); all_goals (intro h; try exact xD)) | refine WC.skip ?_ | refine WC.ret ?_ | refine ThenD.r ?_)); all_goals (first | ((repeat clear hK); (repeat clear Kx))))
    all_goals try (exfalso; first | contradiction | omega)
    (refine ⟨trivial, ⟨_, rfl, ?_⟩, _, rfl, ?_⟩ <;> exact fD)
  have h1' : chkC l = 0 := Classical.byContradiction h1
  have h2' : chkLb vs A = 0 := Classical.byContradiction h2
  rw [h1'] at c1
  rw [h2'] at c2
  obtain ⟨g1, g2, g3, g4, g5⟩ := chkLb_zero h2'
  have c3 := covers_p l vs A g3 g2 (by omega)
  have c4 := single_p vs A fun m hm => by have := g5 m hm; omega
  cases h3 : covP l (findL vs A) with
  | false =>
    have e : rbwP l vs A = ([], 6) := by unfold rbwP; rw [if_neg h1, if_neg h2, if_pos h3]
    rw [e]
    rw [h3] at c3
    ((repeat' (first | ((first | apply WL.opN | apply WD.opN); exact yF; dsimp only [setD, z0, z1]) | refine WL.nil ?_ | refine WC.seqK fun Kx hK => ?_ | (refine hK _ _ ?_; clear hK) | refine WC.region ?_ | ((first | apply WL.opN | apply WD.opN); (focus ((first | (apply SY.call (c1) Tryz.call19; (exact aD)) | (apply SY.call (c2) Tryz.call27; (exact aD)) | (apply SY.call (c3) Tryz.call28; (exact aD)) | (apply SY.load; exact tyLb; exact OpD.t rfl) | ((first | apply SY.move | apply SY.assign | apply SY.lss | apply SY.eql | apply SY.neq | apply SY.not) <;> (exact oD)) | (apply SY.box; (exact oD); (exact hD)) | fail); all_goals infer_instance)); dsimp only [setD, z0, z1]) | (apply WC.condN; (exact oD); all_goals (intro h; try exact xD)) | (apply WC.condNB; (exact oD); all_goals (intro h; try exact xD)) | refine WC.skip ?_ | refine WC.ret ?_ | refine WC.block ?_ | refine ThenD.r ?_ | refine InBlockD.r ?_)); all_goals (first | ((repeat clear hK); (repeat clear Kx))))
    all_goals try (exfalso; first | contradiction | omega)
    (refine ⟨trivial, ⟨_, rfl, ?_⟩, _, rfl, ?_⟩ <;> exact fD)
  | true =>
    rw [h3] at c3
    cases h4 : sglP A with
    | false =>
      have e : rbwP l vs A = ([], 3) := by unfold rbwP; rw [if_neg h1, if_neg h2, if_neg (by simp [h3]), if_pos h4]
      rw [e]
      rw [h4] at c4
      ((repeat' (first | ((first | apply WL.opN | apply WD.opN); exact yF; dsimp only [setD, z0, z1]) | refine WL.nil ?_ | refine WC.seqK fun Kx hK => ?_ | (refine hK _ _ ?_; clear hK) | refine WC.region ?_ | ((first | apply WL.opN | apply WD.opN); (focus ((first | (apply SY.call (c1) Tryz.call19; (exact aD)) | (apply SY.call (c2) Tryz.call27; (exact aD)) | (apply SY.call (c3) Tryz.call28; (exact aD)) | (apply SY.call (c4) Tryz.call29; (exact aD)) | (apply SY.load; exact tyLb; exact OpD.t rfl) | ((first | apply SY.move | apply SY.assign | apply SY.lss | apply SY.eql | apply SY.neq | apply SY.not) <;> (exact oD)) | (apply SY.box; (exact oD); (exact hD)) | fail); all_goals infer_instance)); dsimp only [setD, z0, z1]) | (apply WC.condN; (exact oD); all_goals (intro h; try exact xD)) | (apply WC.condNB; (exact oD); all_goals (intro h; try exact xD)) | refine WC.skip ?_ | refine WC.ret ?_ | refine WC.block ?_ | refine ThenD.r ?_ | refine InBlockD.r ?_)); all_goals (first | ((repeat clear hK); (repeat clear Kx))))
      all_goals try (exfalso; first | contradiction | omega)
      (refine ⟨trivial, ⟨_, rfl, ?_⟩, _, rfl, ?_⟩ <;> exact fD)
    | true =>
      have e : rbwP l vs A = (rbwL l (findL vs A), 0) := by unfold rbwP; rw [if_neg h1, if_neg h2, if_neg (by simp [h3]), if_neg (by simp [h4])]
      rw [e]
      rw [h4] at c4
      have hG := goodX_iff.1 h1'
      have hl4 : l.length ≤ 4096 := hG.1
      (repeat' (first | ((first | apply WL.opN | apply WD.opN); exact yF; dsimp only [setD, z0, z1]) | refine WL.nil ?_ | refine WC.seqK fun Kx hK => ?_ | (refine hK _ _ ?_; clear hK) | refine WC.region ?_ | ((first | apply WL.opN | apply WD.opN); (focus ((first | (apply SY.call (c1) Tryz.call19; (exact aD)) | (apply SY.call (c2) Tryz.call27; (exact aD)) | (apply SY.call (c3) Tryz.call28; (exact aD)) | (apply SY.call (c4) Tryz.call29; (exact aD)) | (apply SY.load; exact tyLb; exact OpD.t rfl) | ((first | apply SY.move | apply SY.assign | apply SY.lss | apply SY.eql | apply SY.neq | apply SY.not) <;> (exact oD)) | (apply SY.len; (exact oD); (exact nD); (exact uD)) | (apply SY.fldC cpxT; exact OpD.t rfl) | (apply SY.box; (exact oD); (exact hD)) | fail); all_goals infer_instance)); dsimp only [setD, z0, z1]) | (apply WC.condN; (exact oD); all_goals (intro h; try exact xD)) | (apply WC.condNB; (exact oD); all_goals (intro h; try exact xD)) | refine WC.skip ?_ | refine WC.block ?_))
      all_goals try (exfalso; first | contradiction | omega)
      refine WC.nilRow 34 Verts ?_
      (refine WC.loopU (X := Nat × Value) (fun x => [(8, dX x.2), (33, dI (x.1 : Int)), (10, dA), (34, dA), (35, dA), (36, dA), (37, dA), (38, dA), (39, dA), (40, dA), (41, dA), (42, dA), (43, dA), (44, dA), (45, dA), (46, dA), (47, dA), (48, dA), (49, dA), (50, dA), (51, dA)]) (fun x => [hRow x.2 34 Verts (rbwL (l.take x.1) (findL vs A))]) (fun x => l.length - x.1) (fun x => x.1 ≤ l.length) (0, .slice none 0 0) ?start ?frame0 ?objs0 ?round)
      case start => simp
      case frame0 => ((try dsimp only [upds, z0, z1]); repeat (first | exact LeF.nil | refine LeF.co (k := ?_)))
      case objs0 => rfl
      case round =>
        rintro ⟨k, u⟩ q1
        simp only at q1
        dsimp only [upds, z0, z1]
        have hol : (rbwL (l.take k) (findL vs A)).length ≤ 1000000 := by
          unfold rbwL
          have := List.length_filter_le (fun s : List Vx => decide (orL (findL vs A) s = ((2 ^ s.length - 1 : Nat) : Int))) (l.take k)
          rw [List.length_take] at this
          omega
        by_cases hk : k < l.length
        · have h8 : l[k].length ≤ 8 := hG.short _ (List.getElem_mem hk)
          have hshl := ishl_pow ⟨l[k].length, by omega⟩
          simp only at hshl
          have hpp : 0 < 2 ^ l[k].length := Nat.two_pow_pos _
          have hp9 : 2 ^ l[k].length ≤ 2 ^ 8 := Nat.pow_le_pow_right (by decide) h8
          by_cases hrb : orL (findL vs A) l[k] = ((2 ^ l[k].length - 1 : Nat) : Int)
          · ((repeat' (first | ((first | apply WL.opN | apply WD.opN); exact yF; dsimp only [setD, z0, z1]) | refine WL.nil ?_ | refine WD.nil ?_ | refine WC.seqK fun Kx hK => ?_ | (refine hK _ _ ?_; clear hK) | refine WC.region ?_ | (apply WC.draw; kernel_rfl; kernel_rfl) | ((first | apply WL.pushK | apply WL.push1); (exact eD); exact OpD.t rfl; (exact oD); (intro _; exact hD); (exact (by simp)); (exact (by simp)); (first | exact ⟨by decide, by decide⟩ | skip); decide; (exact lD); (intro _; dsimp only [setD, z0, z1]); all_goals (try infer_instance)) | ((first | apply WL.opN | apply WD.opN); (focus ((first | (apply SY.load; exact tyLb; exact OpD.t rfl) | (apply SY.call (finder_p vs A g3 g2 (by omega)) Tryz.call31; (exact aD)) | (apply SY.call (together_p l[k] (findL vs A)) Tryz.call30; (exact aD)) | (exact SY.shlE hshl (by omega) OpD.i (OpD.t rfl)) | (refine SY.subE (c := ((2 ^ l[k].length - 1 : Nat) : Int)) (by omega) (by omega) (OpD.t rfl) OpD.i) | (apply SY.call (cloneV_p l[k] (by omega)) Tryz.call32; (exact aD)) | ((first | apply SY.move | apply SY.assign | apply SY.lss | apply SY.eql | apply SY.neq | apply SY.not) <;> (exact oD)) | ((first | apply SY.add | apply SY.sub) <;> first | exact oD | omega) | (apply SY.len; (exact oD); (exact nD); (exact uD)) | (apply SY.ix; (exact eD); (exact oD); (exact oD); exact kD) | fail); all_goals infer_instance)); dsimp only [setD, z0, z1]) | (apply WC.condD; (exact oD); all_goals (intro h; try exact xD)) | refine WC.skip ?_ | refine WC.block ?_ | refine ThenD.n ?_)); all_goals (first | ((repeat clear hK); (repeat clear Kx))))
            all_goals try (exfalso; first | contradiction | omega)
            (refine ⟨(k + 1, _) , ?_, by first | omega | (simp only; omega), by ((try simp only);  (rw [rbwL_snoc hk, if_pos hrb])), ?_⟩; rotate_left; ((try dsimp only [upds, z0, z1]); repeat (first | exact LeF.nil | refine LeF.co (k := ?_))); (try dsimp only))
            omega
          · ((repeat' (first | ((first | apply WL.opN | apply WD.opN); exact yF; dsimp only [setD, z0, z1]) | refine WL.nil ?_ | refine WD.nil ?_ | refine WC.seqK fun Kx hK => ?_ | (refine hK _ _ ?_; clear hK) | refine WC.region ?_ | (apply WC.draw; kernel_rfl; kernel_rfl) | ((first | apply WL.opN | apply WD.opN); (focus ((first | (apply SY.load; exact tyLb; exact OpD.t rfl) | (apply SY.call (finder_p vs A g3 g2 (by omega)) Tryz.call31; (exact aD)) | (apply SY.call (together_p l[k] (findL vs A)) Tryz.call30; (exact aD)) | (exact SY.shlE hshl (by omega) OpD.i (OpD.t rfl)) | (refine SY.subE (c := ((2 ^ l[k].length - 1 : Nat) : Int)) (by omega) (by omega) (OpD.t rfl) OpD.i) | ((first | apply SY.move | apply SY.assign | apply SY.lss | apply SY.eql | apply SY.neq | apply SY.not) <;> (exact oD)) | ((first | apply SY.add | apply SY.sub) <;> first | exact oD | omega) | (apply SY.len; (exact oD); (exact nD); (exact uD)) | (apply SY.ix; (exact eD); (exact oD); (exact oD); exact kD) | fail); all_goals infer_instance)); dsimp only [setD, z0, z1]) | (apply WC.condD; (exact oD); all_goals (intro h; try exact xD)) | refine WC.skip ?_ | refine WC.block ?_ | refine ThenD.n ?_)); all_goals (first | ((repeat clear hK); (repeat clear Kx))))
            all_goals try (exfalso; first | contradiction | omega)
            (refine ⟨(k + 1, _) , ?_, by first | omega | (simp only; omega), by ((try simp only);  (rw [rbwL_snoc hk, if_neg hrb, List.append_nil])), ?_⟩; rotate_left; ((try dsimp only [upds, z0, z1]); repeat (first | exact LeF.nil | refine LeF.co (k := ?_))); (try dsimp only))
            omega
        · have hle : l.take k = l := List.take_of_length_le (by omega)
          rw [hle]
          ((repeat' (first | ((first | apply WL.opN | apply WD.opN); exact yF; dsimp only [setD, z0, z1]) | refine WL.nil ?_ | refine WC.seqK fun Kx hK => ?_ | (refine hK _ _ ?_; clear hK) | (refine Kont.skip ?_; clear hK) | refine WC.region ?_ | ((first | apply WL.opN | apply WD.opN); (focus ((first | ((first | apply SY.move | apply SY.assign | apply SY.lss | apply SY.eql | apply SY.neq | apply SY.not) <;> (exact oD)) | fail); all_goals infer_instance)); dsimp only [setD, z0, z1]) | (apply WC.condD; (exact oD); all_goals (intro h; try exact xD)) | refine WC.ret ?_ | refine WC.exit ?_)); all_goals (first | ((repeat clear hK); (repeat clear Kx))))
          all_goals try (exfalso; omega)
          (refine ⟨trivial, ⟨_, rfl, ?_⟩, _, rfl, ?_⟩ <;> exact fD)
end Go.Proofs.YtmlikmldfdgmcaaGreat
namespace Go.Proofs.YtmlikmldfdgmcaaGreat.M
open Go.RowKit

theorem don_p (x y : Vx) : Fn Tryz.prog 68 [dS RV x, dS RV y] (dI (cmpV x y)) := by
  (refine Fn.intro1 Tryz.func68 rfl rfl ?_; simp only [Tryz.ntmps68, List.length_cons, List.length_nil, Nat.reduceAdd, Nat.reduceSub, List.replicate_succ, List.replicate_zero, List.cons_append, List.nil_append])
  ((repeat' (first | (apply WL.opG; (focus (apply SYG.yes; (exact want_none rfl); (first | (apply SY.assign <;> (exact oD)) | (apply SY.load; (exact tD); (exact OpD.t rfl))))); dsimp only [setD, z0, z1]) | refine WL.nil ?_ | refine WC.seqK fun Kx hK => ?_ | (refine hK _ _ ?_; clear hK) | refine WC.region ?_ | (apply WL.opG; (focus (apply SYG.yes; (exact want_none rfl); ((first | (apply SY.call (cmpL_p [x] [y]) Tryz.call42; (exact aD)) | (apply SY.buildE; (exact eD); ((try simp only [List.map_cons, List.map_nil]); (repeat (first | exact ElsD.nl | (apply ElsD.cn; (first | exact OpD.t rfl | exact OpD.i | exact OpD.b | exact OpD.tle rfl (by first | exact Dat.le_nil | exact Dat.le_nilK (by decide)) | exact ⟨Dat.le_nil⟩ | exact ⟨Dat.le_nilK (by decide)⟩))))); rfl; rfl; decide; (intro _; exact shape_V); (exact (by simp))) | (apply SY.box; (exact oD); (exact hD)) | fail); all_goals infer_instance))); dsimp only [setD, z0, z1]) | refine WC.ret ?_)); all_goals (first | ((repeat clear hK); (repeat clear Kx))))
  all_goals (rw [cmpL_one]; (refine ⟨trivial, _, rfl, ?_⟩; refine FinD.i ?_); try rfl)
theorem don_x (x y : Vx) (w : World) : Calls Tryz.prog 68 #[.agg #[.int .i64 x.1, .int .i64 x.2], .agg #[.int .i64 y.1, .int .i64 y.2]] w fun e w' => e = .returned (.int .i64 (cmpV x y)) ∧ ∃ q os', w' = Go.Sort.grow (w.drewN q) os' := by
  have := (don_p x y).out (fun _ => True) w [.agg #[.int .i64 x.1, .int .i64 x.2], .agg #[.int .i64 y.1, .int .i64 y.2]] rfl (fun i d hd => by
    match i with
    | 0 => cases hd; rfl
    | 1 => cases hd; rfl
    | i + 2 => simp at hd)
  exact this.mono fun e w' ⟨v, h1, h2, h3⟩ => ⟨by rw [h1]; exact congrArg _ h3, h2.grow⟩
end Go.Proofs.YtmlikmldfdgmcaaGreat.M
namespace Go.Proofs.YtmlikmldfdgmcaaGreat
def ptsC (a : Cx) : List Vx := allV [] a.flatten
theorem ptsC_mem {a : Cx} {v : Vx} : v ∈ ptsC a ↔ ∃ s ∈ a, v ∈ s := by unfold ptsC; rw [mem_allV]; simp
theorem ptsC_asc (a : Cx) : Asc (ptsC a) := asc_allV (by simp [Asc])
def Apart (a b : Cx) : Prop := ∀ s ∈ a, ∀ t ∈ b, ∀ v ∈ s, v ∉ t
theorem Apart.symm {a b : Cx} (h : Apart a b) : Apart b a := fun s hs t ht v v1 v2 => h t ht s hs v v2 v1
end Go.Proofs.YtmlikmldfdgmcaaGreat
namespace Go.Proofs.YtmlikmldfdgmcaaGreat
open Go.RowKit
set_option linter.unusedSimpArgs false

set_option maxHeartbeats 2000000
set_option maxRecDepth 100000
section
variable {ops : Array Oper} {hp : List HObj} {fr : List Dat} {Q : Post} {rest : List Oper} {dst : Option Tmp} {ty : TypeId} {ps : String} {af : Array Edge}
theorem WL.growV0 {x : Operand} {n : Nat} {ats : Array TypeId} (hx : OpD fr x (dI (n : Int))) (h0 : n = 0)
    (h : ∀ v : Value, WL Tryz.prog ops Q rest (setD fr dst (dX v)) (hRowK v 51 2 RV ([] : List Vx) :: hp)) :
    WL Tryz.prog ops Q ({ dst := dst, op := .call { callee := .value (.func 79), args := #[.const (.slice none 0 0), x], argTypes := ats }, type := ty, pos := ps, after := af, guard := none } :: rest) fr hp := by
  subst h0
  refine WL.of fun P0 B w0 w a hh hf => ?_
  have hcon := Any8.slices_Grow_room Tryz.growV none 0 0 0 w (Nat.le_refl _) (by omega) (by omega) (by omega)
  change Calls Tryz.prog 79 _ _ _ at hcon
  have hev : a.eval x = .int .i64 ((0 : Nat) : Int) := hx.ev hf
  have hrun : (execOp a.eval { dst := dst, op := .call { callee := .value (.func 79), args := #[.const (.slice none 0 0), x], argTypes := ats }, type := ty, pos := ps, after := af, guard := none }).run Tryz.prog w = .ok (.enter 79 #[.slice none 0 0, .int .i64 ((0 : Nat) : Int)]) w := by
    unfold execOp
    simp only [resolve]
    have he : (#[Operand.const (.slice none 0 0), x] : Array Operand).map a.eval = #[.slice none 0 0, .int .i64 ((0 : Nat) : Int)] := by simp [hev]; rfl
    rw [he]
    simp [Act.eval, Deferred.ofValue, invoke, Tryz.call79]
  refine wpList_plain rfl fun K hK => ?_
  unfold Oper.wp
  rw [hrun]
  refine hcon.mono fun e' w' ⟨he, hw'⟩ => ?_
  subst he
  subst hw'
  refine hK _ _ ((WL.nilRowK 51 2 (by decide) RV (h (.slice none 0 0))).on hh (Fr.put hf rfl))
end
set_option maxHeartbeats 4000000 in
theorem concat_o (ss : List (List Vx)) (hl : ss.flatten.length ≤ 1000) : CallC Tryz.prog 51 [dS Simps ss] [] (fun d hp2 => ∃ v, d = dX v ∧ hp2 = [hRowK v 51 2 RV ss.flatten]) := by
  have hstep : ∀ (k : Nat) (hk : k < ss.length), (ss.take (k + 1)).flatten = (ss.take k).flatten ++ ss[k] := fun k hk => by rw [take_snoc' hk, List.flatten_append]; simp
  have hle : ∀ k : Nat, (ss.take k).flatten.length ≤ ss.flatten.length := fun k => by
    conv => rhs; rw [← List.take_append_drop k ss]
    rw [List.flatten_append, List.length_append]; omega
  (refine CallC.intro Tryz.func51 rfl rfl (fun hp => ?_); simp only [Tryz.ntmps51, List.length_cons, List.length_nil, List.length_append, List.length_map, Nat.reduceAdd, Nat.reduceSub, List.replicate_succ, List.replicate_zero, List.cons_append, List.nil_append, List.map_cons, List.map_nil, List.append_assoc])
  (repeat' (first | (apply WL.opN; exact yF; dsimp only [setD, z0, z1]) | refine WL.nil ?_ | refine WC.seqK fun Kx hK => ?_ | (refine hK _ _ ?_; clear hK) | refine WC.region ?_ | (apply WL.opN; (focus ((first | (apply SY.len; (exact oD); (exact nD); (exact uD)) | fail); all_goals infer_instance)); dsimp only [setD, z0, z1]) | refine WC.block ?_))
  (first | refine WC.know (t := 0) rfl le_K fun hl0 => ?_ | refine WC.know (t := 0) rfl le_A fun hl0 => ?_ | refine WC.know (t := 0) rfl le_C fun hl0 => ?_); simp only [maxLen] at hl0
  (refine WC.loopU (X := Nat) (fun k => [(3, dI ((ss.take k).flatten.length : Int)), (11, dI (k : Int)), (5, dA), (12, dA), (13, dA), (14, dA), (15, dA), (16, dA), (17, dA), (18, dA), (19, dA), (20, dA), (21, dA), (22, dA)]) (fun k => hp) (fun k => ss.length - k) (fun k => k ≤ ss.length) 0 ?start ?frame0 ?objs0 ?round)
  case start => simp
  case frame0 => ((try dsimp only [upds, z0, z1]); repeat (first | exact LeF.nil | refine LeF.co (k := ?_)))
  case objs0 => rfl
  case round =>
    rintro k h1
    dsimp only [upds, z0, z1]
    have hk1 := hle k
    by_cases hks : k < ss.length
    · ((repeat' (first | (apply WL.opN; exact yF; dsimp only [setD, z0, z1]) | refine WL.nil ?_ | refine WC.seqK fun Kx hK => ?_ | (refine hK _ _ ?_; clear hK) | refine WC.region ?_ | (apply WL.opN; (focus ((first | (apply SY.add; exact OpD.t rfl; exact OpD.t rfl; (have := hstep k (by omega); have h7 := hle (k + 1); rw [this, List.length_append] at h7; omega)) | ((first | apply SY.move | apply SY.assign | apply SY.lss) <;> (exact oD)) | ((first | apply SY.add) <;> first | exact oD | omega) | (apply SY.len; (exact oD); (exact nD); (exact uD)) | (apply SY.ix; (exact eD); (exact oD); (exact oD); exact kD) | fail); all_goals infer_instance)); dsimp only [setD, z0, z1]) | (apply WC.condD; (exact oD); all_goals (intro h; try exact xD)) | refine WC.skip ?_ | refine WC.block ?_ | refine ThenD.n ?_)); all_goals (first | ((repeat clear hK); (repeat clear Kx))))
      all_goals
        have h5 := hstep k (by omega)
        have h6 : ((ss.take (k + 1)).flatten.length : Int) = (ss.take k).flatten.length + (ss[k]'(by omega)).length := by rw [h5, List.length_append]; rfl
        rw [← h6]
        (refine ⟨k + 1, ?_, by first | omega | (simp only; omega), rfl, ?_⟩; rotate_left; ((try dsimp only [upds, z0, z1]); repeat (first | exact LeF.nil | refine LeF.co (k := ?_))); (try dsimp only))
        omega
    · have hk2 : (ss.take k).flatten = ss.flatten := by rw [List.take_of_length_le (by omega)]
      rw [hk2]
      by_cases h0 : 0 < ss.flatten.length
      all_goals
        (repeat' (first | (apply WL.opN; exact yF; dsimp only [setD, z0, z1]) | refine WL.nil ?_ | refine WC.seqK fun Kx hK => ?_ | (refine hK _ _ ?_; clear hK) | (refine Kont.skip ?_; clear hK) | refine WC.region ?_ |  (apply WL.growV; exact OpD.t rfl; exact h0; exact hl; intro vg; dsimp only [setD, z0, z1]) |  (apply WL.growV0; exact OpD.t rfl; exact (by omega); intro vg; dsimp only [setD, z0, z1]) | (apply WL.opN; (focus ((first | ((first | apply SY.move | apply SY.assign | apply SY.lss) <;> (exact oD)) | (apply SY.len; (exact oD); (exact nD); (exact uD)) | fail); all_goals infer_instance)); dsimp only [setD, z0, z1]) | (apply WC.condD; (exact oD); all_goals (intro h; try exact xD)) | refine WC.exit ?_ | refine WC.block ?_))
        (refine WC.loopU (X := Nat × Value) (fun x => [(6, dX x.2), (27, dI (x.1 : Int)), (8, dA), (28, dA), (29, dA), (30, dA), (31, dA), (32, dA), (33, dA), (34, dA)]) (fun x => (hRowK x.2 51 2 RV ((ss.take x.1).flatten) :: hp)) (fun x => ss.length - x.1) (fun x => x.1 ≤ ss.length) (0, vg) ?start ?frame0 ?objs0 ?round)
        case start => simp
        case frame0 => ((try dsimp only [upds, z0, z1]); repeat (first | exact LeF.nil | refine LeF.co (k := ?_)))
        case objs0 => rfl
        case round =>
          rintro ⟨j, u⟩ q1
          dsimp only [upds, z0, z1]
          simp only at q1
          have q2 := hle j
          have q3 : ∀ (hj : j < ss.length), (ss.take j).flatten.length + ss[j].length ≤ 1000 := fun hj => by
            have h7 := hle (j + 1)
            rw [hstep j hj, List.length_append] at h7
            omega
          ((repeat' (first | (apply WL.opN; exact yF; dsimp only [setD, z0, z1]) | refine WL.nil ?_ | refine WC.seqK fun Kx hK => ?_ | (refine hK _ _ ?_; clear hK) | (refine Kont.skip ?_; clear hK) | refine WC.region ?_ |  (apply WL.appK; exact elV; exact OpD.t rfl; exact OpD.t rfl; decide; (have := q3 (by omega); omega); (intro _; dsimp only [setD, z0, z1]); all_goals (try infer_instance)) | (apply WL.opN; (focus ((first | ((first | apply SY.move | apply SY.assign | apply SY.lss) <;> (exact oD)) | ((first | apply SY.add) <;> first | exact oD | omega) | (apply SY.ix; (exact eD); (exact oD); (exact oD); exact kD) | fail); all_goals infer_instance)); dsimp only [setD, z0, z1]) | (apply WC.condD; (exact oD); all_goals (intro h; try exact xD)) | refine WC.skip ?_ | refine WC.ret ?_ | refine WC.exit ?_ | refine WC.block ?_ | refine ThenD.n ?_)); all_goals (first | ((repeat clear hK); (repeat clear Kx))))
          · (refine ⟨(j + 1, _) , ?_, by first | omega | (simp only; omega), by ((try simp only);  (rw [hstep j (by omega)])), ?_⟩; rotate_left; ((try dsimp only [upds, z0, z1]); repeat (first | exact LeF.nil | refine LeF.co (k := ?_))); (try dsimp only))
            omega
          · exact ⟨trivial, _, [_], rfl, rfl, u, rfl, by rw [List.take_of_length_le (by omega)]⟩
theorem flat_len {l : Cx} (h : ∀ s ∈ l, s.length ≤ 8) : l.flatten.length ≤ 8 * l.length := by
  induction l with
  | nil => simp
  | cons s l ih =>
    have h1 := ih fun x hx => h x (List.mem_cons_of_mem _ hx)
    have h2 := h s (by simp)
    rw [List.flatten_cons, List.length_append, List.length_cons]
    omega
set_option maxHeartbeats 4000000 in
theorem vertices0_p (l : Cx) (h8 : ∀ s ∈ l, s.length ≤ 8) (hl : l.length ≤ 100) : Fn Tryz.prog 26 [dS Simps l] (dS Verts (ptsC l)) := by
  have hfl := flat_len h8
  (refine Fn.intro1 Tryz.func26 rfl rfl ?_; simp only [Tryz.ntmps26, List.length_cons, List.length_nil, Nat.reduceAdd, Nat.reduceSub, List.replicate_succ, List.replicate_zero, List.cons_append, List.nil_append])
  ((repeat' (first | (apply WL.opN; exact yF; dsimp only [setD, z0, z1]) | refine WL.nil ?_ | refine WC.seqK fun Kx hK => ?_ | (refine hK _ _ ?_; clear hK) | refine WC.region ?_ |  (refine WL.callC (hp1 := []) (caps := []) (concat_o l (by omega)) Tryz.call51 OpD.f (ArgsD.cons (OpD.t rfl) ArgsD.nil) ?_; rintro d' hp2 ⟨vc, rfl, rfl⟩; dsimp only [setD, z0, z1, List.cons_append, List.nil_append]) |  (refine WL.sortVG Tryz.call53 M.vtx_x (OpD.t rfl) (by omega) ?_; intro ys hperm hsort; dsimp only [setD, z0, z1]) |  (refine WL.inRow (compact_k ys vc hsort (by rw [hperm.length_eq]; omega)) Tryz.call54 ?_ ?_; (exact aD); intro vd zs hzs; dsimp only [setD, z0, z1]) | refine WC.ret ?_)); all_goals (first | ((repeat clear hK); (repeat clear Kx))))
  all_goals
    have hz : zs = ptsC l := asc_ext hzs.1 (ptsC_asc l) fun u => by rw [hzs.2, hperm.mem_iff, ptsC_mem, List.mem_flatten]
    subst hz
    (refine ⟨trivial, _, rfl, ?_⟩; exact fD)
def vrtP (l : Cx) : List Vx × Int := if chkC l ≠ 0 then ([], chkC l) else (ptsC l, 0)
theorem vertices27_p (l : Cx) (hl : l.length ≤ 100) : Fn Tryz.prog 9 [dS Cpx l] (dT [dS Verts (vrtP l).1, dI (vrtP l).2]) := by
  (refine Fn.intro2 Tryz.func9 rfl rfl ?_; simp only [Tryz.ntmps9, List.length_cons, List.length_nil, Nat.reduceAdd, Nat.reduceSub, List.replicate_succ, List.replicate_zero, List.cons_append, List.nil_append])
  by_cases h0 : chkC l = 0
  · have e : vrtP l = (ptsC l, 0) := by unfold vrtP; rw [if_neg (by omega)]
    have c1 := vertices0_p l (goodX_iff.1 h0).short hl
    ((repeat' (first | (apply WL.opN; exact yF; dsimp only [setD, z0, z1]) | refine WL.nil ?_ | refine WC.seqK fun Kx hK => ?_ | (refine hK _ _ ?_; clear hK) | refine WC.region ?_ | (apply WL.opN; (focus ((first | (apply SY.call (check_p _) Tryz.call19; (exact aD)) | (apply SY.call (c1) Tryz.call26; (exact aD)) | ((first | apply SY.move | apply SY.assign | apply SY.neq) <;> (exact oD)) | (apply SY.fldC cpxT; exact OpD.t rfl) | (apply SY.box; (exact oD); (exact hD)) | fail); all_goals infer_instance)); dsimp only [setD, z0, z1]) | (apply WC.condN; (exact oD); all_goals (intro h; try exact xD)) | refine WC.skip ?_ | refine WC.ret ?_)); all_goals (first | ((repeat clear hK); (repeat clear Kx))))
    rw [e]; (refine ⟨trivial, ⟨_, rfl, ?_⟩, _, rfl, ?_⟩ <;> exact fD)
  · have e : vrtP l = ([], chkC l) := by unfold vrtP; rw [if_pos h0]
    ((repeat' (first | (apply WL.opN; exact yF; dsimp only [setD, z0, z1]) | refine WL.nil ?_ | refine WC.seqK fun Kx hK => ?_ | (refine hK _ _ ?_; clear hK) | refine WC.region ?_ | (apply WL.opN; (focus ((first | (apply SY.call (check_p _) Tryz.call19; (exact aD)) | ((first | apply SY.move | apply SY.assign | apply SY.neq) <;> (exact oD)) | (apply SY.box; (exact oD); (exact hD)) | fail); all_goals infer_instance)); dsimp only [setD, z0, z1]) | (apply WC.condN; (exact oD); all_goals (intro h; try exact xD)) | refine WC.ret ?_ | refine ThenD.r ?_)); all_goals (first | ((repeat clear hK); (repeat clear Kx))))
    rw [e]; (refine ⟨trivial, ⟨_, rfl, ?_⟩, _, rfl, ?_⟩ <;> exact fD)
end Go.Proofs.YtmlikmldfdgmcaaGreat
